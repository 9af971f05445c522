/- A part of the proof. -/
import Derived.Test.YtbhbeakhognieaaGreatDoorWj
import Derived.Test.YtbhbeakhognieaaGreatDoorWm
import Derived.Test.YtbhbeakhognieaaGreatDoorTie
import Derived.Test.YtbhbeakhognieaaGreatDoorCards
import Derived.LaidMore
import Derived.SevenTiedAt
import Derived.LaidHandle
set_option linter.all false
set_option maxRecDepth 100000
set_option maxHeartbeats 8000000
open Option renaming bind_some → J
open List renaming range_succ → y0, map_map → y5, all_eq_true → y8, length_map → y9, length_append → yb, getElem?_eq_getElem → yg, getElem?_map → yh, drop_eq_nil_of_le → yj, drop_eq_getElem_cons → yk, append_assoc → yl, length_take → ym, getElem?_eq_some_iff → yq, length_drop → yr, append_nil → yt, mem_cons_self → yv, getElem_mem → yx, mem_cons → yA, length_cons → yD, mem_cons_of_mem → yE, mem_append → yI, take_append_drop → yR
open Int renaming toNat_lt → y6
open Bool renaming and_eq_true → yc
open Array renaming toArray_toList → yM
open Nat renaming mul_le_mul_right → yO
namespace Go.Proofs.YtbhbeakhognieaaGreatDoor
open Go
structure DD where
 kind:Int
 ty:Int
 id:Int
 name:ByteArray
 mem:EE
 sym:AM
 low:Int
 high:Int
 max:Int
 opn:Bool
 key:Int
 elem:Int
def zI (e:DD):List AV:=[.int .i64 e.kind,.int .i64 e.ty,.int .i64 e.id,.str e.name]++WA e.mem++FA e.sym++[.int .i64 e.low,.int .i64 e.high,.int .i64 e.max,.bool e.opn,.int .i64 e.key,.int .i64 e.elem]
theorem edC_len (e:DD):(zI e).length=25:=rfl
theorem BB (l:List DD):OA 25 (l.map zI)=true:=UD _ _ _ edC_len
def EE.zero:EE:=⟨0,⟨#[]⟩,0,false,false,.zero⟩
def DD.zero:DD:=⟨0,0,0,⟨#[]⟩,.zero,⟨0,⟨#[]⟩⟩,0,0,0,false,0,0⟩
theorem F9 (x:EE) (id:Int):wB 106 [.agg (WA x),.bp [.int .i64 id]] (.bool (decide (x.id=id))):=by
 refine cA (c:=rE) rfl rfl ?_;simp [rE,-J,-y6,-y5,y0,WA]
theorem IX (t:XA) (id:Int) (hl:t.mems.length<=9223372036854775807):wB 65 [.agg (qA t),.int .i64 id] (.int .i64 (KB t.mems id)):=by
 refine cA (c:=SF) rfl rfl ?_;have h:=tW 106 [.bp [.int .i64 id]] t.mems (fun x=>decide (x.id=id)) hl (fun _ _=>rfl) (fun x _=>F9 x id) t.mn;simp only [wB] at h;unfold KB;simp [SF,-J,-y6,-y5,y0,qA,h]
theorem X9 (x:AM) (id:Int):wB 110 [.agg (FA x),.bp [.int .i64 id]] (.bool (decide (x.id=id))):=by
 refine cA (c:=tE) rfl rfl ?_;simp [tE,-J,-y6,-y5,y0,FA]
theorem PX (t:XA) (id:Int) (hl:t.syms.length<=9223372036854775807):wB 70 [.agg (qA t),.int .i64 id] (.int .i64 (ZB t.syms id)):=by
 refine cA (c:=DF) rfl rfl ?_;have h:=uW 110 [.bp [.int .i64 id]] t.syms (fun x=>decide (x.id=id)) hl (fun _ _=>rfl) (fun x _=>X9 x id) t.sn;simp only [wB] at h;unfold ZB;simp [DF,-J,-y6,-y5,y0,qA,h]
theorem Z9 (m m':EE) (hm:m.ok):wB 81 [.agg (WA m),.agg (WA m')] (.bool (m.same m')):=by
 have hs:=o8 _ m.dflt m'.dflt (Nat.lt_succ_self _) hm.1;simp only [wB,dB] at hs;refine cA (c:=CC) rfl rfl ?_;unfold EE.same WA;by_cases h1:m.id=m'.id
 ·by_cases h2:m.name=m'.name
  ·by_cases h3:m.ty=m'.ty
   ·by_cases h4:m.crit=m'.crit
    ·by_cases h5:m.has=m'.has
     ·simp [CC,-J,ZA,y0,h1,h2,h3,h4,h5,hs]
     ·simp [CC,-J,ZA,y0,h1,h2,h3,h4,h5]
    ·simp [CC,-J,ZA,y0,h1,h2,h3,h4]
   ·simp [CC,-J,ZA,y0,h1,h2,h3]
  ·simp [CC,-J,ZA,y0,h1,h2]
 ·simp [CC,-J,ZA,y0,h1]
theorem WZ (m m':EE) (hm:m.ok):wB 45 [.agg (WA m),.agg (WA m')] (.bool (m.same m')):=by
 have h:=fX ⟨0,⟨#[]⟩,0,0,0,true,[],false,[m],0,0,false⟩ ⟨0,⟨#[]⟩,0,0,0,true,[],false,[m'],0,0,false⟩ ⟨by simp,by simp,fun x hx=>by simp at hx; subst hx; exact hm⟩;simp only [wB,qA,XA.same,LB] at h;refine cA (c:=aE) rfl rfl ?_;simp [WA] at h;simp [aE,-J,-y6,-y5,y0,WA,h]
def rR (n:Int) (s:ByteArray):DD:={ DD.zero with kind:=6,ty:=n,name:=s }
def eR (n a b c:Int):DD:={ DD.zero with kind:=7,ty:=n,low:=a,high:=b,max:=c }
def uR (n:Int) (b:Bool):DD:={ DD.zero with kind:=8,ty:=n,opn:=b }
def iR (n a b:Int):DD:={ DD.zero with kind:=9,ty:=n,key:=a,elem:=b }
def ZY (n i:Int):DD:={ DD.zero with kind:=2,ty:=n,id:=i }
def D9 (n:Int) (m:EE):DD:={ DD.zero with kind:=3,ty:=n,mem:=m }
def LY (n:Int) (m:EE):DD:={ DD.zero with kind:=1,ty:=n,mem:=m }
def jU (n i:Int):DD:={ DD.zero with kind:=5,ty:=n,id:=i }
def XS (n:Int) (x:AM):DD:={ DD.zero with kind:=4,ty:=n,sym:=x }
def mJ (n:Int) (q:List EE) (l:List EE):List DD:=l.flatMap fun m=>if KB q m.id<0 then [ZY n m.id] else []
def WK (n:Int) (q:List EE) (m:EE):List DD:=match q[(KB q m.id).toNat]? with
 | some m'=>if 0<=KB q m.id/\m'.same m=false then [D9 n m] else []
 | none=>[]
def zJ (n:Int) (q:List EE) (l:List EE):List DD:=l.flatMap (WK n q)
def lJ (n:Int) (q:List EE) (l:List EE):List DD:=l.flatMap fun m=>if KB q m.id<0 then [LY n m] else []
def xJ (n:Int) (q:List AM) (l:List AM):List DD:=l.flatMap fun m=>if ZB q m.id<0 then [jU n m.id] else []
def wL (n:Int) (q:List AM) (m:AM):List DD:=match q[(ZB q m.id).toNat]? with
 | some m'=>if 0<=ZB q m.id/\m'.name≠m.name then [XS n m] else []
 | none=>[]
def WJ (n:Int) (q:List AM) (l:List AM):List DD:=l.flatMap (wL n q)
def QJ (n:Int) (q:List AM) (l:List AM):List DD:=l.flatMap fun m=>if ZB q m.id<0 then [XS n m] else []
def MS (n:Int) (x y:XA):List DD :=
 (if x.name=y.name then [] else [rR n y.name])++((if x.low=y.low/\x.high=y.high/\x.max=y.max then [] else [eR n y.low y.high y.max])++((if x.opn=y.opn then [] else [uR n y.opn])++(if x.key=y.key/\x.elem=y.elem then [] else [iR n y.key y.elem])))
def qQ (n:Int) (x y:XA):List DD:=MS n x y++(mJ n y.mems x.mems++(zJ n x.mems y.mems++(lJ n x.mems y.mems++(xJ n y.syms x.syms++(WJ n x.syms y.syms++QJ n x.syms y.syms)))))
theorem ID {α β:Type} (f:α->List β) {l:List α} {i:Nat} {x:α} (h:l[i]?=some x):(l.take (i + 1)).flatMap f=(l.take i).flatMap f++f x:=by
 rw [List.take_add_one,h];simp
def OutA (L:List DD) (v:wA):Prop:=(L=[]/\v=⟨.sl true [],.ex⟩)\/(L≠[]/\v.v=.sl false (L.map zI)/\∃ k,v.a=.own k 52)
structure EJ (n:Int) (x y:XA) (L:List DD) (s:uA):Prop where
 e0:(s.env 0).v=.int .i64 n
 e4:(s.env 4).v=.ptr 4 1 0
 e5:(s.env 5).v=.ptr 5 1 0
 m4:s.mem 4 1=some ((qA x).map (⟨·,.no⟩))
 m5:s.mem 5 1=some ((qA y).map (⟨·,.no⟩))
 e7:OutA L (s.env 7)
 len:L.length<=1000
theorem bt_rem {rv:RV} {n:Int} {x y:XA} (hx:x.mems.length<=100) (hy:y.mems.length<=100) {L:List DD} (hL:L.length<=500) (s:uA) (h:EJ n x y L s) (e8:(s.env 8).v=.int .i64 0) (k:Ex->uA->Option RV)
  (hk:∀ s',EJ n x y (L++mJ n y.mems x.mems) s'->k (.exit 0) s'=some rv):CF lA zA xC s k=some rv:=by
 refine cB x.mems.length (fun i s=>(s.env 8).v=.int .i64 i/\EJ n x y (L++mJ n y.mems (x.mems.take i)) s/\(L++mJ n y.mems (x.mems.take i)).length<=L.length + i) (fun e s=>e=.exit 0/\EJ n x y (L++mJ n y.mems x.mems) s) (fun i hi s k h ih hk=>?_) _ _ ⟨e8,by simpa [mJ] using h,by simp [mJ]⟩ (fun e s h=>by obtain ⟨rfl,h⟩:=h; exact hk _ h);obtain ⟨e8,hI,hn⟩:=h;obtain ⟨env,mem,nx,obj,gh⟩:=s;obtain ⟨e0,e4,e5,m4,m5,e7,ea⟩:=hI;dsimp only at e8 e0 e4 e5 m4 m5 e7;have M4:=m4;have M5:=m5;refine aA ?_;by_cases ia:i<x.mems.length
 ·have da:(i:Int)<x.mems.length:=by omega
  have hw:=mB (i:=i);obtain ⟨q,hq⟩:∃ q,x.mems[i]?=some q:=⟨_,yg ia⟩;have g1:(x.mems.map WA)[i]?=some (WA q):=by rw [yh,hq]; rfl
  have rD:=ID (fun m=>if KB y.mems m.id<0 then [ZY n m.id] else []) hq;have sb:=kY y q.id (by omega);simp only [wB,qA,memA] at sb;simp only [qA] at m4 m5;have g2:(AV.int IntKind.i64 q.id)=(AV.int IntKind.i64 q.id):=rfl;simp only [WA] at g1;have db:=ih ia;unfold mJ at db e7 hn ea;rw [rD] at db;generalize cf:L++(x.mems.take i).flatMap (fun m=>if KB y.mems m.id<0 then [ZY n m.id] else [])=L0 at *
  rw [<- yl,cf] at db;have gc:(x.mems.map WA).length=x.mems.length:=y9 _;generalize bc:x.mems.map WA=ml at *
  have ga:nA 272 (L0.length + 1)=true:=by rw [rA]; omega
  have eb:=BB L0;have nb:(L0.map zI).length=L0.length:=y9 _;by_cases hc:KB y.mems q.id<0
  ·have xb:¬ 0<=KB y.mems q.id:=by omega
   rw [if_pos hc] at db;rcases e7 with ⟨rfl,e7⟩ | ⟨h0,e7,kk,a7⟩
   ·have ga:nA 272 1=true:=by rw [rA]; omega
    simp [xC,-J,-y6,-y5,y0,e8,e0,e4,e5,e7,m4,m5,da,hw,gc,g1,sb,hc,xb,ga];refine db _ ⟨by simp,⟨by simp [e0],by simp [e4],by simp [e5],?_,?_,.inr ⟨by simp,?_,131,?_⟩,?_⟩,?_⟩
    ·simp [m4,qA,bc,AA]
    ·simp [m5,qA,AA]
    ·simp; rfl
    ·simp
    ·first | (simp; done) | (simp; omega)
    ·first | (simp; done) | (simp; omega)
   ·simp [xC,-J,-y6,-y5,y0,e8,e0,e4,e5,e7,a7,ZA,m4,m5,da,hw,gc,nb,g1,sb,hc,xb,ga,eb];refine db _ ⟨by simp,⟨by simp [e0],by simp [e4],by simp [e5],?_,?_,.inr ⟨by simp,?_,131,?_⟩,?_⟩,?_⟩
    ·simp [m4,qA,bc,AA]
    ·simp [m5,qA,AA]
    ·simp; rfl
    ·simp
    ·first | (simp; done) | (simp; omega)
    ·first | (simp; done) | (simp; omega)
  ·have xb:0<=KB y.mems q.id:=by omega
   rw [if_neg hc,yt] at db;simp [xC,-J,-y6,-y5,y0,e8,e0,e4,e5,m4,m5,da,hw,gc,g1,sb,hc,xb];refine db _ ⟨by simp,⟨by simp [e0],by simp [e4],by simp [e5],M4,M5,by simpa using e7,ea⟩,by omega⟩
 ·have da:¬ (i:Int)<x.mems.length:=by omega
  have:i=x.mems.length:=by omega
  subst this;rw [List.take_length] at e7 ea;simp only [qA] at m4;simp [xC,-J,-y6,-y5,y0,e8,e4,m4,da];exact hk _ _ ⟨rfl,by simp [e0],by simp [e4],by simp [e5],M4,M5,by simpa using e7,ea⟩
section
variable {rv:RV} {n:Int} {x y:XA}
include rv n x y
theorem bt_add (hx:x.mems.length<=100) (hy:y.mems.length<=100) {L:List DD} (hL:L.length<=500) (s:uA) (h:EJ n x y L s) (e_c:(s.env 14).v=.int .i64 0) (k:Ex->uA->Option RV)
  (hk:∀ s',EJ n x y (L++lJ n x.mems y.mems) s'->k (.exit 4) s'=some rv):CF lA zA zC s k=some rv:=by
 refine cB y.mems.length (fun i s=>(s.env 14).v=.int .i64 i/\EJ n x y (L++lJ n x.mems (y.mems.take i)) s/\(L++lJ n x.mems (y.mems.take i)).length<=L.length + i) (fun e s=>e=.exit 4/\EJ n x y (L++lJ n x.mems y.mems) s) (fun i hi s k h ih hk=>?_) _ _ ⟨e_c,by simpa [lJ] using h,by simp [lJ]⟩ (fun e s h=>by obtain ⟨rfl,h⟩:=h; exact hk _ h);obtain ⟨e_c,hI,hn⟩:=h;obtain ⟨env,mem,nx,obj,gh⟩:=s;obtain ⟨e0,e4,e5,m4,m5,e7,ea⟩:=hI;dsimp only at e_c e0 e4 e5 m4 m5 e7;have M4:=m4;have M5:=m5;refine aA ?_;by_cases ia:i<y.mems.length
 ·have da:(i:Int)<y.mems.length:=by omega
  have hw:=mB (i:=i);obtain ⟨q,hq⟩:∃ q,y.mems[i]?=some q:=⟨_,yg ia⟩;have g1:(y.mems.map WA)[i]?=some (WA q):=by rw [yh,hq]; rfl
  have rD:=ID (fun m=>if KB x.mems m.id<0 then [LY n m] else []) hq;have sb:=kY x q.id (by omega);simp only [wB,qA,memA] at sb;simp only [qA] at m4 m5;have g2:(AV.int IntKind.i64 q.id)=(AV.int IntKind.i64 q.id):=rfl;simp only [WA] at g1;have db:=ih ia;unfold lJ at db e7 hn ea;rw [rD] at db;generalize cf:L++(y.mems.take i).flatMap (fun m=>if KB x.mems m.id<0 then [LY n m] else [])=L0 at *
  rw [<- yl,cf] at db;have gc:(y.mems.map WA).length=y.mems.length:=y9 _;generalize bc:y.mems.map WA=ml at *
  have ga:nA 272 (L0.length + 1)=true:=by rw [rA]; omega
  have eb:=BB L0;have nb:(L0.map zI).length=L0.length:=y9 _;by_cases hc:KB x.mems q.id<0
  ·have xb:¬ 0<=KB x.mems q.id:=by omega
   rw [if_pos hc] at db;rcases e7 with ⟨rfl,e7⟩ | ⟨h0,e7,kk,a7⟩
   ·have ga:nA 272 1=true:=by rw [rA]; omega
    simp [zC,-J,-y6,-y5,y0,e_c,e0,e4,e5,e7,m4,m5,da,hw,gc,g1,sb,hc,xb,ga];refine db _ ⟨by simp,⟨by simp [e0],by simp [e4],by simp [e5],?_,?_,.inr ⟨by simp,?_,204,?_⟩,?_⟩,?_⟩
    ·simp [m4,qA,AA]
    ·simp [m5,qA,bc,AA]
    ·simp; rfl
    ·simp
    ·first | (simp; done) | (simp; omega)
    ·first | (simp; done) | (simp; omega)
   ·simp [zC,-J,-y6,-y5,y0,e_c,e0,e4,e5,e7,a7,ZA,m4,m5,da,hw,gc,nb,g1,sb,hc,xb,ga,eb];refine db _ ⟨by simp,⟨by simp [e0],by simp [e4],by simp [e5],?_,?_,.inr ⟨by simp,?_,204,?_⟩,?_⟩,?_⟩
    ·simp [m4,qA,AA]
    ·simp [m5,qA,bc,AA]
    ·simp; rfl
    ·simp
    ·first | (simp; done) | (simp; omega)
    ·first | (simp; done) | (simp; omega)
  ·have xb:0<=KB x.mems q.id:=by omega
   rw [if_neg hc,yt] at db;simp [zC,-J,-y6,-y5,y0,e_c,e0,e4,e5,m4,m5,da,hw,gc,g1,sb,hc,xb];refine db _ ⟨by simp,⟨by simp [e0],by simp [e4],by simp [e5],M4,M5,by simpa using e7,ea⟩,by omega⟩
 ·have da:¬ (i:Int)<y.mems.length:=by omega
  have:i=y.mems.length:=by omega
  subst this;rw [List.take_length] at e7 ea;simp only [qA] at m5;simp [zC,-J,-y6,-y5,y0,e_c,e5,m5,da];exact hk _ _ ⟨rfl,by simp [e0],by simp [e4],by simp [e5],M4,M5,by simpa using e7,ea⟩
theorem bt_drp (hx:x.syms.length<=100) (hy:y.syms.length<=100) {L:List DD} (hL:L.length<=500) (s:uA) (h:EJ n x y L s) (e_c:(s.env 17).v=.int .i64 0) (k:Ex->uA->Option RV)
  (hk:∀ s',EJ n x y (L++xJ n y.syms x.syms) s'->k (.exit 6) s'=some rv):CF lA zA lC s k=some rv:=by
 refine cB x.syms.length (fun i s=>(s.env 17).v=.int .i64 i/\EJ n x y (L++xJ n y.syms (x.syms.take i)) s/\(L++xJ n y.syms (x.syms.take i)).length<=L.length + i) (fun e s=>e=.exit 6/\EJ n x y (L++xJ n y.syms x.syms) s) (fun i hi s k h ih hk=>?_) _ _ ⟨e_c,by simpa [xJ] using h,by simp [xJ]⟩ (fun e s h=>by obtain ⟨rfl,h⟩:=h; exact hk _ h);obtain ⟨e_c,hI,hn⟩:=h;obtain ⟨env,mem,nx,obj,gh⟩:=s;obtain ⟨e0,e4,e5,m4,m5,e7,ea⟩:=hI;dsimp only at e_c e0 e4 e5 m4 m5 e7;have M4:=m4;have M5:=m5;refine aA ?_;by_cases ia:i<x.syms.length
 ·have da:(i:Int)<x.syms.length:=by omega
  have hw:=mB (i:=i);obtain ⟨q,hq⟩:∃ q,x.syms[i]?=some q:=⟨_,yg ia⟩;have g1:(x.syms.map FA)[i]?=some (FA q):=by rw [yh,hq]; rfl
  have rD:=ID (fun m=>if ZB y.syms m.id<0 then [jU n m.id] else []) hq;have sb:=cY y q.id (by omega);simp only [wB,qA,symA] at sb;simp only [qA] at m4 m5;have g2:(AV.int IntKind.i64 q.id)=(AV.int IntKind.i64 q.id):=rfl;simp only [FA] at g1;have db:=ih ia;unfold xJ at db e7 hn ea;rw [rD] at db;generalize cf:L++(x.syms.take i).flatMap (fun m=>if ZB y.syms m.id<0 then [jU n m.id] else [])=L0 at *
  rw [<- yl,cf] at db;have gc:(x.syms.map FA).length=x.syms.length:=y9 _;generalize bc:x.syms.map FA=ml at *
  have ga:nA 272 (L0.length + 1)=true:=by rw [rA]; omega
  have eb:=BB L0;have nb:(L0.map zI).length=L0.length:=y9 _;by_cases hc:ZB y.syms q.id<0
  ·have xb:¬ 0<=ZB y.syms q.id:=by omega
   rw [if_pos hc] at db;rcases e7 with ⟨rfl,e7⟩ | ⟨h0,e7,kk,a7⟩
   ·have ga:nA 272 1=true:=by rw [rA]; omega
    simp [lC,-J,-y6,-y5,y0,e_c,e0,e4,e5,e7,m4,m5,da,hw,gc,g1,sb,hc,xb,ga];refine db _ ⟨by simp,⟨by simp [e0],by simp [e4],by simp [e5],?_,?_,.inr ⟨by simp,?_,235,?_⟩,?_⟩,?_⟩
    ·simp [m4,qA,bc,AA]
    ·simp [m5,qA,AA]
    ·simp; rfl
    ·simp
    ·first | (simp; done) | (simp; omega)
    ·first | (simp; done) | (simp; omega)
   ·simp [lC,-J,-y6,-y5,y0,e_c,e0,e4,e5,e7,a7,ZA,m4,m5,da,hw,gc,nb,g1,sb,hc,xb,ga,eb];refine db _ ⟨by simp,⟨by simp [e0],by simp [e4],by simp [e5],?_,?_,.inr ⟨by simp,?_,235,?_⟩,?_⟩,?_⟩
    ·simp [m4,qA,bc,AA]
    ·simp [m5,qA,AA]
    ·simp; rfl
    ·simp
    ·first | (simp; done) | (simp; omega)
    ·first | (simp; done) | (simp; omega)
  ·have xb:0<=ZB y.syms q.id:=by omega
   rw [if_neg hc,yt] at db;simp [lC,-J,-y6,-y5,y0,e_c,e0,e4,e5,m4,m5,da,hw,gc,g1,sb,hc,xb];refine db _ ⟨by simp,⟨by simp [e0],by simp [e4],by simp [e5],M4,M5,by simpa using e7,ea⟩,by omega⟩
 ·have da:¬ (i:Int)<x.syms.length:=by omega
  have:i=x.syms.length:=by omega
  subst this;rw [List.take_length] at e7 ea;simp only [qA] at m4;simp [lC,-J,-y6,-y5,y0,e_c,e4,m4,da];exact hk _ _ ⟨rfl,by simp [e0],by simp [e4],by simp [e5],M4,M5,by simpa using e7,ea⟩
theorem bt_sya (hx:x.syms.length<=100) (hy:y.syms.length<=100) {L:List DD} (hL:L.length<=500) (s:uA) (h:EJ n x y L s) (e_c:(s.env 23).v=.int .i64 0) (k:Ex->uA->Option RV)
  (hk:∀ s',EJ n x y (L++QJ n x.syms y.syms) s'->k (.exit 10) s'=some rv):CF lA zA kC s k=some rv:=by
 refine cB y.syms.length (fun i s=>(s.env 23).v=.int .i64 i/\EJ n x y (L++QJ n x.syms (y.syms.take i)) s/\(L++QJ n x.syms (y.syms.take i)).length<=L.length + i) (fun e s=>e=.exit 10/\EJ n x y (L++QJ n x.syms y.syms) s) (fun i hi s k h ih hk=>?_) _ _ ⟨e_c,by simpa [QJ] using h,by simp [QJ]⟩ (fun e s h=>by obtain ⟨rfl,h⟩:=h; exact hk _ h);obtain ⟨e_c,hI,hn⟩:=h;obtain ⟨env,mem,nx,obj,gh⟩:=s;obtain ⟨e0,e4,e5,m4,m5,e7,ea⟩:=hI;dsimp only at e_c e0 e4 e5 m4 m5 e7;have M4:=m4;have M5:=m5;refine aA ?_;by_cases ia:i<y.syms.length
 ·have da:(i:Int)<y.syms.length:=by omega
  have hw:=mB (i:=i);obtain ⟨q,hq⟩:∃ q,y.syms[i]?=some q:=⟨_,yg ia⟩;have g1:(y.syms.map FA)[i]?=some (FA q):=by rw [yh,hq]; rfl
  have rD:=ID (fun m=>if ZB x.syms m.id<0 then [XS n m] else []) hq;have sb:=cY x q.id (by omega);simp only [wB,qA,symA] at sb;simp only [qA] at m4 m5;have g2:(AV.int IntKind.i64 q.id)=(AV.int IntKind.i64 q.id):=rfl;simp only [FA] at g1;have db:=ih ia;unfold QJ at db e7 hn ea;rw [rD] at db;generalize cf:L++(y.syms.take i).flatMap (fun m=>if ZB x.syms m.id<0 then [XS n m] else [])=L0 at *
  rw [<- yl,cf] at db;have gc:(y.syms.map FA).length=y.syms.length:=y9 _;generalize bc:y.syms.map FA=ml at *
  have ga:nA 272 (L0.length + 1)=true:=by rw [rA]; omega
  have eb:=BB L0;have nb:(L0.map zI).length=L0.length:=y9 _;by_cases hc:ZB x.syms q.id<0
  ·have xb:¬ 0<=ZB x.syms q.id:=by omega
   rw [if_pos hc] at db;rcases e7 with ⟨rfl,e7⟩ | ⟨h0,e7,kk,a7⟩
   ·have ga:nA 272 1=true:=by rw [rA]; omega
    simp [kC,-J,-y6,-y5,y0,e_c,e0,e4,e5,e7,m4,m5,da,hw,gc,g1,sb,hc,xb,ga];refine db _ ⟨by simp,⟨by simp [e0],by simp [e4],by simp [e5],?_,?_,.inr ⟨by simp,?_,309,?_⟩,?_⟩,?_⟩
    ·simp [m4,qA,AA]
    ·simp [m5,qA,bc,AA]
    ·simp; rfl
    ·simp
    ·first | (simp; done) | (simp; omega)
    ·first | (simp; done) | (simp; omega)
   ·simp [kC,-J,-y6,-y5,y0,e_c,e0,e4,e5,e7,a7,ZA,m4,m5,da,hw,gc,nb,g1,sb,hc,xb,ga,eb];refine db _ ⟨by simp,⟨by simp [e0],by simp [e4],by simp [e5],?_,?_,.inr ⟨by simp,?_,309,?_⟩,?_⟩,?_⟩
    ·simp [m4,qA,AA]
    ·simp [m5,qA,bc,AA]
    ·simp; rfl
    ·simp
    ·first | (simp; done) | (simp; omega)
    ·first | (simp; done) | (simp; omega)
  ·have xb:0<=ZB x.syms q.id:=by omega
   rw [if_neg hc,yt] at db;simp [kC,-J,-y6,-y5,y0,e_c,e0,e4,e5,m4,m5,da,hw,gc,g1,sb,hc,xb];refine db _ ⟨by simp,⟨by simp [e0],by simp [e4],by simp [e5],M4,M5,by simpa using e7,ea⟩,by omega⟩
 ·have da:¬ (i:Int)<y.syms.length:=by omega
  have:i=y.syms.length:=by omega
  subst this;rw [List.take_length] at e7 ea;simp only [qA] at m5;simp [kC,-J,-y6,-y5,y0,e_c,e5,m5,da];exact hk _ _ ⟨rfl,by simp [e0],by simp [e4],by simp [e5],M4,M5,by simpa using e7,ea⟩
theorem bt_chg (hx:x.mems.length<=100) (hy:y.mems.length<=100) (sa:∀ m∈x.mems,m.ok) {L:List DD} (hL:L.length<=500) (s:uA) (h:EJ n x y L s) (e_c:(s.env 11).v=.int .i64 0) (k:Ex->uA->Option RV)
  (hk:∀ s',EJ n x y (L++zJ n x.mems y.mems) s'->k (.exit 2) s'=some rv):CF lA zA HB s k=some rv:=by
 refine cB y.mems.length (fun i s=>(s.env 11).v=.int .i64 i/\EJ n x y (L++zJ n x.mems (y.mems.take i)) s/\(L++zJ n x.mems (y.mems.take i)).length<=L.length + i) (fun e s=>e=.exit 2/\EJ n x y (L++zJ n x.mems y.mems) s) (fun i hi s k h ih hk=>?_) _ _ ⟨e_c,by simpa [zJ] using h,by simp [zJ]⟩ (fun e s h=>by obtain ⟨rfl,h⟩:=h; exact hk _ h);obtain ⟨e_c,hI,hn⟩:=h;obtain ⟨env,mem,nx,obj,gh⟩:=s;obtain ⟨e0,e4,e5,m4,m5,e7,ea⟩:=hI;dsimp only at e_c e0 e4 e5 m4 m5 e7;have M4:=m4;have M5:=m5;refine aA ?_;by_cases ia:i<y.mems.length
 ·have da:(i:Int)<y.mems.length:=by omega
  have hw:=mB (i:=i);obtain ⟨q,hq⟩:∃ q,y.mems[i]?=some q:=⟨_,yg ia⟩;have g1:(y.mems.map WA)[i]?=some (WA q):=by rw [yh,hq]; rfl
  have rD:=ID (WK n x.mems) hq;have sb:=kY x q.id (by omega);simp only [wB,qA,memA] at sb;simp only [qA] at m4 m5;simp only [WA] at g1;have db:=ih ia;unfold zJ at db e7 hn ea;rw [rD] at db;generalize cf:L++(y.mems.take i).flatMap (WK n x.mems)=L0 at *
  rw [<- yl,cf] at db;have gc:(y.mems.map WA).length=y.mems.length:=y9 _;have rd:(x.mems.map WA).length=x.mems.length:=y9 _;have ga:nA 272 (L0.length + 1)=true:=by rw [rA]; omega
  have eb:=BB L0;have nb:(L0.map zI).length=L0.length:=y9 _;by_cases hc:KB x.mems q.id<0
  ·have hf:(WK n x.mems) q=[]:=by
    unfold WK;split
    ·rw [if_neg (by omega)]
    ·rfl
   rw [hf,yt] at db;have xb:¬ 0<=KB x.mems q.id:=by omega
   generalize bc:y.mems.map WA=ml at *
   generalize ad:x.mems.map WA=mlx at *
   simp [HB,-J,-y6,-y5,y0,e_c,e0,e4,e5,m4,m5,da,hw,gc,rd,g1,sb,hc,xb];refine db _ ⟨by simp,⟨by simp [e0],by simp [e4],by simp [e5],M4,M5,by simpa using e7,ea⟩,by omega⟩
  ·have xb:0<=KB x.mems q.id:=by omega
   obtain ⟨q',bi,_⟩:=nI (fun m=>decide (m.id=q.id)) x.mems (fun e=>by unfold KB at xb; omega);have ae:x.mems[(KB x.mems q.id).toNat]?=some q':=bi;have zl:KB x.mems q.id<x.mems.length:=ZT _ _;have g3:(x.mems.map WA)[(KB x.mems q.id).toNat]?=some (WA q'):=by rw [yh,ae]; rfl
   have z0:0<=KB x.mems q.id:=xb;have ot:max (KB x.mems q.id) 0=KB x.mems q.id:=by omega
   have dm:=WZ q' q (sa q' (List.mem_of_getElem? ae));simp only [wB,WA] at dm;simp only [WA] at g3;by_cases ht:q'.same q=true
   ·have hf:(WK n x.mems) q=[]:=by
     unfold WK;rw [ae];dsimp only;rw [if_neg (by simp [ht])]
    rw [hf,yt] at db;generalize bc:y.mems.map WA=ml at *
    generalize ad:x.mems.map WA=mlx at *
    generalize KB x.mems q.id=z at *
    rw [ht] at dm;simp [HB,-J,-y6,-y5,y0,e_c,e0,e4,e5,m4,m5,da,hw,gc,rd,g1,g3,z0,zl,ot,sb,hc,xb,dm,ht];refine db _ ⟨by simp,⟨by simp [e0],by simp [e4],by simp [e5],M4,M5,by simpa using e7,ea⟩,by omega⟩
   ·have hf:(WK n x.mems) q=[D9 n q]:=by
     unfold WK;rw [ae];dsimp only;rw [if_pos ⟨xb,by simpa using ht⟩]
    rw [hf] at db;generalize bc:y.mems.map WA=ml at *
    generalize ad:x.mems.map WA=mlx at *
    generalize KB x.mems q.id=z at *
    rw [Bool.eq_false_iff.2 ht] at dm;rcases e7 with ⟨rfl,e7⟩ | ⟨h0,e7,kk,a7⟩
    ·have ga:nA 272 1=true:=by rw [rA]; omega
     simp [HB,-J,-y6,-y5,y0,e_c,e0,e4,e5,e7,m4,m5,da,hw,gc,rd,g1,g3,sb,hc,xb,z0,zl,ot,dm,ht,ga];refine db _ ⟨by simp,⟨by simp [e0],by simp [e4],by simp [e5],?_,?_,.inr ⟨by simp,?_,174,?_⟩,?_⟩,?_⟩
     ·simp [m4,qA,ad,AA]
     ·simp [m5,qA,bc,AA]
     ·simp; rfl
     ·simp
     ·first | (simp; done) | (simp; omega)
     ·first | (simp; done) | (simp; omega)
    ·simp [HB,-J,-y6,-y5,y0,e_c,e0,e4,e5,e7,a7,ZA,m4,m5,da,hw,gc,rd,nb,g1,g3,sb,hc,xb,z0,zl,ot,dm,ht,ga,eb];refine db _ ⟨by simp,⟨by simp [e0],by simp [e4],by simp [e5],?_,?_,.inr ⟨by simp,?_,174,?_⟩,?_⟩,?_⟩
     ·simp [m4,qA,ad,AA]
     ·simp [m5,qA,bc,AA]
     ·simp; rfl
     ·simp
     ·first | (simp; done) | (simp; omega)
     ·first | (simp; done) | (simp; omega)
 ·have da:¬ (i:Int)<y.mems.length:=by omega
  have:i=y.mems.length:=by omega
  subst this;rw [List.take_length] at e7 ea;simp only [qA] at m5;simp [HB,-J,-y6,-y5,y0,e_c,e5,m5,da];exact hk _ _ ⟨rfl,by simp [e0],by simp [e4],by simp [e5],M4,M5,by simpa using e7,ea⟩
theorem bt_syn (hx:x.syms.length<=100) (hy:y.syms.length<=100) {L:List DD} (hL:L.length<=500) (s:uA) (h:EJ n x y L s) (e_c:(s.env 20).v=.int .i64 0) (k:Ex->uA->Option RV)
  (hk:∀ s',EJ n x y (L++WJ n x.syms y.syms) s'->k (.exit 8) s'=some rv):CF lA zA GB s k=some rv:=by
 refine cB y.syms.length (fun i s=>(s.env 20).v=.int .i64 i/\EJ n x y (L++WJ n x.syms (y.syms.take i)) s/\(L++WJ n x.syms (y.syms.take i)).length<=L.length + i) (fun e s=>e=.exit 8/\EJ n x y (L++WJ n x.syms y.syms) s) (fun i hi s k h ih hk=>?_) _ _ ⟨e_c,by simpa [WJ] using h,by simp [WJ]⟩ (fun e s h=>by obtain ⟨rfl,h⟩:=h; exact hk _ h);obtain ⟨e_c,hI,hn⟩:=h;obtain ⟨env,mem,nx,obj,gh⟩:=s;obtain ⟨e0,e4,e5,m4,m5,e7,ea⟩:=hI;dsimp only at e_c e0 e4 e5 m4 m5 e7;have M4:=m4;have M5:=m5;refine aA ?_;by_cases ia:i<y.syms.length
 ·have da:(i:Int)<y.syms.length:=by omega
  have hw:=mB (i:=i);obtain ⟨q,hq⟩:∃ q,y.syms[i]?=some q:=⟨_,yg ia⟩;have g1:(y.syms.map FA)[i]?=some (FA q):=by rw [yh,hq]; rfl
  have rD:=ID (wL n x.syms) hq;have sb:=cY x q.id (by omega);simp only [wB,qA,symA] at sb;simp only [qA] at m4 m5;simp only [FA] at g1;have db:=ih ia;unfold WJ at db e7 hn ea;rw [rD] at db;generalize cf:L++(y.syms.take i).flatMap (wL n x.syms)=L0 at *
  rw [<- yl,cf] at db;have gc:(y.syms.map FA).length=y.syms.length:=y9 _;have rd:(x.syms.map FA).length=x.syms.length:=y9 _;have ga:nA 272 (L0.length + 1)=true:=by rw [rA]; omega
  have eb:=BB L0;have nb:(L0.map zI).length=L0.length:=y9 _;by_cases hc:ZB x.syms q.id<0
  ·have hf:(wL n x.syms) q=[]:=by
    unfold wL;split
    ·rw [if_neg (by omega)]
    ·rfl
   rw [hf,yt] at db;have xb:¬ 0<=ZB x.syms q.id:=by omega
   generalize bc:y.syms.map FA=ml at *
   generalize ad:x.syms.map FA=mlx at *
   simp [GB,-J,-y6,-y5,y0,e_c,e0,e4,e5,m4,m5,da,hw,gc,rd,g1,sb,hc,xb];refine db _ ⟨by simp,⟨by simp [e0],by simp [e4],by simp [e5],M4,M5,by simpa using e7,ea⟩,by omega⟩
  ·have xb:0<=ZB x.syms q.id:=by omega
   obtain ⟨q',bi,_⟩:=nI (fun m=>decide (m.id=q.id)) x.syms (fun e=>by unfold ZB at xb; omega);have ae:x.syms[(ZB x.syms q.id).toNat]?=some q':=bi;have zl:ZB x.syms q.id<x.syms.length:=ZT _ _;have g3:(x.syms.map FA)[(ZB x.syms q.id).toNat]?=some (FA q'):=by rw [yh,ae]; rfl
   have z0:0<=ZB x.syms q.id:=xb;have ot:max (ZB x.syms q.id) 0=ZB x.syms q.id:=by omega
   simp only [FA] at g3;by_cases ht:q'.name=q.name
   ·have hf:(wL n x.syms) q=[]:=by
     unfold wL;rw [ae];dsimp only;rw [if_neg (by simp [ht])]
    rw [hf,yt] at db;generalize bc:y.syms.map FA=ml at *
    generalize ad:x.syms.map FA=mlx at *
    generalize ZB x.syms q.id=z at *
    skip
    simp [GB,-J,-y6,-y5,y0,e_c,e0,e4,e5,m4,m5,da,hw,gc,rd,g1,g3,z0,zl,ot,sb,hc,xb,ht];refine db _ ⟨by simp,⟨by simp [e0],by simp [e4],by simp [e5],M4,M5,by simpa using e7,ea⟩,by omega⟩
   ·have hf:(wL n x.syms) q=[XS n q]:=by
     unfold wL;rw [ae];dsimp only;rw [if_pos ⟨xb,by simpa using ht⟩]
    rw [hf] at db;generalize bc:y.syms.map FA=ml at *
    generalize ad:x.syms.map FA=mlx at *
    generalize ZB x.syms q.id=z at *
    skip
    rcases e7 with ⟨rfl,e7⟩ | ⟨h0,e7,kk,a7⟩
    ·have ga:nA 272 1=true:=by rw [rA]; omega
     simp [GB,-J,-y6,-y5,y0,e_c,e0,e4,e5,e7,m4,m5,da,hw,gc,rd,g1,g3,sb,hc,xb,z0,zl,ot,ht,ga];refine db _ ⟨by simp,⟨by simp [e0],by simp [e4],by simp [e5],?_,?_,.inr ⟨by simp,?_,279,?_⟩,?_⟩,?_⟩
     ·simp [m4,qA,ad,AA]
     ·simp [m5,qA,bc,AA]
     ·simp; rfl
     ·simp
     ·first | (simp; done) | (simp; omega)
     ·first | (simp; done) | (simp; omega)
    ·simp [GB,-J,-y6,-y5,y0,e_c,e0,e4,e5,e7,a7,ZA,m4,m5,da,hw,gc,rd,nb,g1,g3,sb,hc,xb,z0,zl,ot,ht,ga,eb];refine db _ ⟨by simp,⟨by simp [e0],by simp [e4],by simp [e5],?_,?_,.inr ⟨by simp,?_,279,?_⟩,?_⟩,?_⟩
     ·simp [m4,qA,ad,AA]
     ·simp [m5,qA,bc,AA]
     ·simp; rfl
     ·simp
     ·first | (simp; done) | (simp; omega)
     ·first | (simp; done) | (simp; omega)
 ·have da:¬ (i:Int)<y.syms.length:=by omega
  have:i=y.syms.length:=by omega
  subst this;rw [List.take_length] at e7 ea;simp only [qA] at m5;simp [GB,-J,-y6,-y5,y0,e_c,e5,m5,da];exact hk _ _ ⟨rfl,by simp [e0],by simp [e4],by simp [e5],M4,M5,by simpa using e7,ea⟩
end
def btS0:C:=.reg [⟨(.some 4),(.box 10 (.t 1)),.none⟩,⟨(.some 5),(.box 10 (.t 2)),.none⟩,⟨(.some 6),(.mv (.c (.sl .true []))),.none⟩]
def btS1:C:=.reg [⟨(.some 7),(.mv (.c (.sl .true []))),.none⟩]
def N8:C:=.seq (.reg [⟨(.some 26),(.faddr 1 (.t 4)),.none⟩,⟨(.some 27),(.load .any .false 1 (.t 26)),.none⟩,⟨(.some 28),(.faddr 1 (.t 5)),.none⟩,⟨(.some 29),(.load .any .false 1 (.t 28)),.none⟩,⟨(.some 30),(.bin .neq .false (.t 27) (.t 29)),.none⟩]) (.cond (.t 30) (.reg [⟨(.some 31),(.mv (.t 7)),.none⟩,⟨(.some 32),(.mv (.t 0)),.none⟩,⟨(.some 33),(.faddr 1 (.t 5)),.none⟩,⟨(.some 34),(.load .any .false 1 (.t 33)),.none⟩,⟨(.some 35),(.build [(.int .i64 0),(.int .i64 0),(.int .i64 0),(.str (ByteArray.mk #[])),(.int .i64 0),(.str (ByteArray.mk #[])),(.int .i64 0),(.bool .false),(.bool .false),(.int .i64 0),(.bool .false),(.int .i64 0),(.str (ByteArray.mk #[])),(.int .i64 0),(.sl .true []),(.sl .true []),(.sl .true []),(.int .i64 0),(.str (ByteArray.mk #[])),(.int .i64 0),(.int .i64 0),(.int .i64 0),(.bool .false),(.int .i64 0),(.int .i64 0)] [(0,(1,(.c (.int .i64 6)))),(1,(1,(.t 32))),(3,(1,(.t 34)))]),.none⟩,⟨(.some 36),(.bsl [(.int .i64 0),(.int .i64 0),(.int .i64 0),(.str (ByteArray.mk #[])),(.int .i64 0),(.str (ByteArray.mk #[])),(.int .i64 0),(.bool .false),(.bool .false),(.int .i64 0),(.bool .false),(.int .i64 0),(.str (ByteArray.mk #[])),(.int .i64 0),(.sl .true []),(.sl .true []),(.sl .true []),(.int .i64 0),(.str (ByteArray.mk #[])),(.int .i64 0),(.int .i64 0),(.int .i64 0),(.bool .false),(.int .i64 0),(.int .i64 0)] 1 [(0,(.t 35))]),.none⟩,⟨(.some 37),(.app .any 52 25 272 (.t 31) (.t 36)),.none⟩,⟨(.some 7),(.mv (.t 37)),.none⟩]) .skip)
def TX:C:=.seq (.reg [⟨(.some 38),(.faddr 2 (.t 4)),.none⟩,⟨(.some 39),(.load .any .false 1 (.t 38)),.none⟩,⟨(.some 40),(.faddr 2 (.t 5)),.none⟩,⟨(.some 41),(.load .any .false 1 (.t 40)),.none⟩,⟨(.some 42),(.bin .neq .false (.t 39) (.t 41)),.none⟩,⟨(.some 43),(.mv (.t 42)),.none⟩,⟨(.some 44),(.faddr 3 (.t 4)),(.some (43,.false))⟩,⟨(.some 45),(.load .any .false 1 (.t 44)),(.some (43,.false))⟩,⟨(.some 46),(.faddr 3 (.t 5)),(.some (43,.false))⟩,⟨(.some 47),(.load .any .false 1 (.t 46)),(.some (43,.false))⟩,⟨(.some 48),(.bin .neq .false (.t 45) (.t 47)),(.some (43,.false))⟩,⟨(.some 49),(.pick (.t 43) (.c (.bool .true)) (.t 48)),.none⟩,⟨(.some 50),(.mv (.t 49)),.none⟩,⟨(.some 51),(.faddr 4 (.t 4)),(.some (50,.false))⟩,⟨(.some 52),(.load .any .false 1 (.t 51)),(.some (50,.false))⟩,⟨(.some 53),(.faddr 4 (.t 5)),(.some (50,.false))⟩,⟨(.some 54),(.load .any .false 1 (.t 53)),(.some (50,.false))⟩,⟨(.some 55),(.bin .neq .false (.t 52) (.t 54)),(.some (50,.false))⟩,⟨(.some 56),(.pick (.t 50) (.c (.bool .true)) (.t 55)),.none⟩]) (.cond (.t 56) (.reg [⟨(.some 57),(.mv (.t 7)),.none⟩,⟨(.some 58),(.mv (.t 0)),.none⟩,⟨(.some 59),(.faddr 2 (.t 5)),.none⟩,⟨(.some 60),(.load .any .false 1 (.t 59)),.none⟩,⟨(.some 61),(.faddr 3 (.t 5)),.none⟩,⟨(.some 62),(.load .any .false 1 (.t 61)),.none⟩,⟨(.some 63),(.faddr 4 (.t 5)),.none⟩,⟨(.some 64),(.load .any .false 1 (.t 63)),.none⟩,⟨(.some 65),(.build [(.int .i64 0),(.int .i64 0),(.int .i64 0),(.str (ByteArray.mk #[])),(.int .i64 0),(.str (ByteArray.mk #[])),(.int .i64 0),(.bool .false),(.bool .false),(.int .i64 0),(.bool .false),(.int .i64 0),(.str (ByteArray.mk #[])),(.int .i64 0),(.sl .true []),(.sl .true []),(.sl .true []),(.int .i64 0),(.str (ByteArray.mk #[])),(.int .i64 0),(.int .i64 0),(.int .i64 0),(.bool .false),(.int .i64 0),(.int .i64 0)] [(0,(1,(.c (.int .i64 7)))),(1,(1,(.t 58))),(19,(1,(.t 60))),(20,(1,(.t 62))),(21,(1,(.t 64)))]),.none⟩,⟨(.some 66),(.bsl [(.int .i64 0),(.int .i64 0),(.int .i64 0),(.str (ByteArray.mk #[])),(.int .i64 0),(.str (ByteArray.mk #[])),(.int .i64 0),(.bool .false),(.bool .false),(.int .i64 0),(.bool .false),(.int .i64 0),(.str (ByteArray.mk #[])),(.int .i64 0),(.sl .true []),(.sl .true []),(.sl .true []),(.int .i64 0),(.str (ByteArray.mk #[])),(.int .i64 0),(.int .i64 0),(.int .i64 0),(.bool .false),(.int .i64 0),(.int .i64 0)] 1 [(0,(.t 65))]),.none⟩,⟨(.some 67),(.app .any 52 25 272 (.t 57) (.t 66)),.none⟩,⟨(.some 7),(.mv (.t 67)),.none⟩]) .skip)
def M8:C:=.seq (.reg [⟨(.some 68),(.faddr 9 (.t 4)),.none⟩,⟨(.some 69),(.load .any .false 1 (.t 68)),.none⟩,⟨(.some 70),(.faddr 9 (.t 5)),.none⟩,⟨(.some 71),(.load .any .false 1 (.t 70)),.none⟩,⟨(.some 72),(.bin .neq .true (.t 69) (.t 71)),.none⟩]) (.cond (.t 72) (.reg [⟨(.some 73),(.mv (.t 7)),.none⟩,⟨(.some 74),(.mv (.t 0)),.none⟩,⟨(.some 75),(.faddr 9 (.t 5)),.none⟩,⟨(.some 76),(.load .any .false 1 (.t 75)),.none⟩,⟨(.some 77),(.build [(.int .i64 0),(.int .i64 0),(.int .i64 0),(.str (ByteArray.mk #[])),(.int .i64 0),(.str (ByteArray.mk #[])),(.int .i64 0),(.bool .false),(.bool .false),(.int .i64 0),(.bool .false),(.int .i64 0),(.str (ByteArray.mk #[])),(.int .i64 0),(.sl .true []),(.sl .true []),(.sl .true []),(.int .i64 0),(.str (ByteArray.mk #[])),(.int .i64 0),(.int .i64 0),(.int .i64 0),(.bool .false),(.int .i64 0),(.int .i64 0)] [(0,(1,(.c (.int .i64 8)))),(1,(1,(.t 74))),(22,(1,(.t 76)))]),.none⟩,⟨(.some 78),(.bsl [(.int .i64 0),(.int .i64 0),(.int .i64 0),(.str (ByteArray.mk #[])),(.int .i64 0),(.str (ByteArray.mk #[])),(.int .i64 0),(.bool .false),(.bool .false),(.int .i64 0),(.bool .false),(.int .i64 0),(.str (ByteArray.mk #[])),(.int .i64 0),(.sl .true []),(.sl .true []),(.sl .true []),(.int .i64 0),(.str (ByteArray.mk #[])),(.int .i64 0),(.int .i64 0),(.int .i64 0),(.bool .false),(.int .i64 0),(.int .i64 0)] 1 [(0,(.t 77))]),.none⟩,⟨(.some 79),(.app .any 52 25 272 (.t 73) (.t 78)),.none⟩,⟨(.some 7),(.mv (.t 79)),.none⟩]) .skip)
def E0:C:=.seq (.reg [⟨(.some 80),(.faddr 7 (.t 4)),.none⟩,⟨(.some 81),(.load .any .false 1 (.t 80)),.none⟩,⟨(.some 82),(.faddr 7 (.t 5)),.none⟩,⟨(.some 83),(.load .any .false 1 (.t 82)),.none⟩,⟨(.some 84),(.bin .neq .false (.t 81) (.t 83)),.none⟩,⟨(.some 85),(.mv (.t 84)),.none⟩,⟨(.some 86),(.faddr 8 (.t 4)),(.some (85,.false))⟩,⟨(.some 87),(.load .any .false 1 (.t 86)),(.some (85,.false))⟩,⟨(.some 88),(.faddr 8 (.t 5)),(.some (85,.false))⟩,⟨(.some 89),(.load .any .false 1 (.t 88)),(.some (85,.false))⟩,⟨(.some 90),(.bin .neq .false (.t 87) (.t 89)),(.some (85,.false))⟩,⟨(.some 91),(.pick (.t 85) (.c (.bool .true)) (.t 90)),.none⟩]) (.cond (.t 91) (.reg [⟨(.some 92),(.mv (.t 7)),.none⟩,⟨(.some 93),(.mv (.t 0)),.none⟩,⟨(.some 94),(.faddr 7 (.t 5)),.none⟩,⟨(.some 95),(.load .any .false 1 (.t 94)),.none⟩,⟨(.some 96),(.faddr 8 (.t 5)),.none⟩,⟨(.some 97),(.load .any .false 1 (.t 96)),.none⟩,⟨(.some 98),(.build [(.int .i64 0),(.int .i64 0),(.int .i64 0),(.str (ByteArray.mk #[])),(.int .i64 0),(.str (ByteArray.mk #[])),(.int .i64 0),(.bool .false),(.bool .false),(.int .i64 0),(.bool .false),(.int .i64 0),(.str (ByteArray.mk #[])),(.int .i64 0),(.sl .true []),(.sl .true []),(.sl .true []),(.int .i64 0),(.str (ByteArray.mk #[])),(.int .i64 0),(.int .i64 0),(.int .i64 0),(.bool .false),(.int .i64 0),(.int .i64 0)] [(0,(1,(.c (.int .i64 9)))),(1,(1,(.t 93))),(23,(1,(.t 95))),(24,(1,(.t 97)))]),.none⟩,⟨(.some 99),(.bsl [(.int .i64 0),(.int .i64 0),(.int .i64 0),(.str (ByteArray.mk #[])),(.int .i64 0),(.str (ByteArray.mk #[])),(.int .i64 0),(.bool .false),(.bool .false),(.int .i64 0),(.bool .false),(.int .i64 0),(.str (ByteArray.mk #[])),(.int .i64 0),(.sl .true []),(.sl .true []),(.sl .true []),(.int .i64 0),(.str (ByteArray.mk #[])),(.int .i64 0),(.int .i64 0),(.int .i64 0),(.bool .false),(.int .i64 0),(.int .i64 0)] 1 [(0,(.t 98))]),.none⟩,⟨(.some 100),(.app .any 52 25 272 (.t 92) (.t 99)),.none⟩,⟨(.some 7),(.mv (.t 100)),.none⟩]) .skip)
def btS6:C:=.seq (.reg [⟨(.some 8),(.mv (.c (.int .i64 0))),.none⟩]) (.block 0 (.loop xC))
def btS7:C:=.seq (.reg [⟨(.some 11),(.mv (.c (.int .i64 0))),.none⟩]) (.block 2 (.loop HB))
def btS8:C:=.seq (.reg [⟨(.some 14),(.mv (.c (.int .i64 0))),.none⟩]) (.block 4 (.loop zC))
def btS9:C:=.seq (.reg [⟨(.some 17),(.mv (.c (.int .i64 0))),.none⟩]) (.block 6 (.loop lC))
def C8:C:=.seq (.reg [⟨(.some 20),(.mv (.c (.int .i64 0))),.none⟩]) (.block 8 (.loop GB))
def B8:C:=.seq (.reg [⟨(.some 23),(.mv (.c (.int .i64 0))),.none⟩]) (.block 10 (.loop kC))
def btS12:C:=.reg [⟨(.some 310),(.mv (.t 7)),.none⟩,⟨(.some 6),(.mv (.t 310)),.none⟩]
def btS13:C:=.ret
theorem q9:gE.code=.seq btS0 (.seq btS1 (.seq N8 (.seq TX (.seq M8 (.seq E0 (.seq btS6 (.seq btS7 (.seq btS8 (.seq btS9 (.seq C8 (.seq B8 (.seq btS12 btS13)))))))))))):=rfl
section
variable {rv:RV} {n:Int} {x y:XA} {L:List DD} (hL:L.length<=500) (s:uA) (h:EJ n x y L s) (k:Ex->uA->Option RV)
include rv n x y L hL s h k
theorem bt_Name
  (hk:∀ s',EJ n x y (L++if x.name=y.name then [] else [rR n y.name]) s'->k .nrm s'=some rv):N8.run (WF lA zA) (SO lA zA) s k=some rv:=by
 obtain ⟨env,mem,nx,obj,gh⟩:=s;obtain ⟨e0,e4,e5,m4,m5,e7,ea⟩:=h;dsimp only at e0 e4 e5 m4 m5 e7;have M4:=m4;have M5:=m5;simp only [qA] at m4 m5;have ga:nA 272 (L.length + 1)=true:=by rw [rA]; omega
 have eb:=BB L;have nb:(L.map zI).length=L.length:=y9 _;by_cases hc:x.name=y.name
 ·rw [if_pos hc,yt] at hk;have c0:=hc;simp [N8,-J,-y6,-y5,y0,e0,e4,e5,m4,m5,c0];exact hk _ ⟨by simp [e0],by simp [e4],by simp [e5],M4,M5,by simpa using e7,ea⟩
 ·rw [if_neg hc] at hk;have c0:=hc;rcases e7 with ⟨rfl,e7⟩ | ⟨h0,e7,kk,a7⟩
  ·have ga:nA 272 1=true:=by rw [rA]; omega
   simp [N8,-J,-y6,-y5,y0,e0,e4,e5,e7,m4,m5,c0,ga];refine hk _ ⟨by simp [e0],by simp [e4],by simp [e5],?_,?_,.inr ⟨by simp,?_,37,?_⟩,?_⟩
   ·simp [m4,qA,AA]
   ·simp [m5,qA,AA]
   ·simp; rfl
   ·simp
   ·first | (simp; done) | (simp; omega)
  ·simp [N8,-J,-y6,-y5,y0,e0,e4,e5,e7,a7,ZA,m4,m5,nb,c0,ga,eb];refine hk _ ⟨by simp [e0],by simp [e4],by simp [e5],?_,?_,.inr ⟨by simp,?_,37,?_⟩,?_⟩
   ·simp [m4,qA,AA]
   ·simp [m5,qA,AA]
   ·simp; rfl
   ·simp
   ·first | (simp; done) | (simp; omega)
theorem bt_Bnds
  (hk:∀ s',EJ n x y (L++if x.low=y.low/\x.high=y.high/\x.max=y.max then [] else [eR n y.low y.high y.max]) s'->k .nrm s'=some rv):TX.run (WF lA zA) (SO lA zA) s k=some rv:=by
 obtain ⟨env,mem,nx,obj,gh⟩:=s;obtain ⟨e0,e4,e5,m4,m5,e7,ea⟩:=h;dsimp only at e0 e4 e5 m4 m5 e7;have M4:=m4;have M5:=m5;simp only [qA] at m4 m5;have ga:nA 272 (L.length + 1)=true:=by rw [rA]; omega
 have eb:=BB L;have nb:(L.map zI).length=L.length:=y9 _;by_cases hc:x.low=y.low/\x.high=y.high/\x.max=y.max
 ·rw [if_pos hc,yt] at hk;obtain ⟨c0,c1,c2⟩:=hc;simp [TX,-J,-y6,-y5,y0,e0,e4,e5,m4,m5,c0,c1,c2];exact hk _ ⟨by simp [e0],by simp [e4],by simp [e5],M4,M5,by simpa using e7,ea⟩
 ·rw [if_neg hc] at hk;by_cases c0:x.low=y.low
  ·skip
   by_cases c1:x.high=y.high
   ·skip
    have c2:¬ x.max=y.max:=fun e=>hc ⟨c0,c1,e⟩
    rcases e7 with ⟨rfl,e7⟩ | ⟨h0,e7,kk,a7⟩
    ·have ga:nA 272 1=true:=by rw [rA]; omega
     simp [TX,-J,-y6,-y5,y0,e0,e4,e5,e7,m4,m5,c0,c1,c2,ga];refine hk _ ⟨by simp [e0],by simp [e4],by simp [e5],?_,?_,.inr ⟨by simp,?_,67,?_⟩,?_⟩
     ·simp [m4,qA,AA]
     ·simp [m5,qA,AA]
     ·simp; rfl
     ·simp
     ·first | (simp; done) | (simp; omega)
    ·simp [TX,-J,-y6,-y5,y0,e0,e4,e5,e7,a7,ZA,m4,m5,nb,c0,c1,c2,ga,eb];refine hk _ ⟨by simp [e0],by simp [e4],by simp [e5],?_,?_,.inr ⟨by simp,?_,67,?_⟩,?_⟩
     ·simp [m4,qA,AA]
     ·simp [m5,qA,AA]
     ·simp; rfl
     ·simp
     ·first | (simp; done) | (simp; omega)
   ·skip
    rcases e7 with ⟨rfl,e7⟩ | ⟨h0,e7,kk,a7⟩
    ·have ga:nA 272 1=true:=by rw [rA]; omega
     simp [TX,-J,-y6,-y5,y0,e0,e4,e5,e7,m4,m5,c0,c1,ga];refine hk _ ⟨by simp [e0],by simp [e4],by simp [e5],?_,?_,.inr ⟨by simp,?_,67,?_⟩,?_⟩
     ·simp [m4,qA,AA]
     ·simp [m5,qA,AA]
     ·simp; rfl
     ·simp
     ·first | (simp; done) | (simp; omega)
    ·simp [TX,-J,-y6,-y5,y0,e0,e4,e5,e7,a7,ZA,m4,m5,nb,c0,c1,ga,eb];refine hk _ ⟨by simp [e0],by simp [e4],by simp [e5],?_,?_,.inr ⟨by simp,?_,67,?_⟩,?_⟩
     ·simp [m4,qA,AA]
     ·simp [m5,qA,AA]
     ·simp; rfl
     ·simp
     ·first | (simp; done) | (simp; omega)
  ·skip
   rcases e7 with ⟨rfl,e7⟩ | ⟨h0,e7,kk,a7⟩
   ·have ga:nA 272 1=true:=by rw [rA]; omega
    simp [TX,-J,-y6,-y5,y0,e0,e4,e5,e7,m4,m5,c0,ga];refine hk _ ⟨by simp [e0],by simp [e4],by simp [e5],?_,?_,.inr ⟨by simp,?_,67,?_⟩,?_⟩
    ·simp [m4,qA,AA]
    ·simp [m5,qA,AA]
    ·simp; rfl
    ·simp
    ·first | (simp; done) | (simp; omega)
   ·simp [TX,-J,-y6,-y5,y0,e0,e4,e5,e7,a7,ZA,m4,m5,nb,c0,ga,eb];refine hk _ ⟨by simp [e0],by simp [e4],by simp [e5],?_,?_,.inr ⟨by simp,?_,67,?_⟩,?_⟩
    ·simp [m4,qA,AA]
    ·simp [m5,qA,AA]
    ·simp; rfl
    ·simp
    ·first | (simp; done) | (simp; omega)
theorem bt_Open
  (hk:∀ s',EJ n x y (L++if x.opn=y.opn then [] else [uR n y.opn]) s'->k .nrm s'=some rv):M8.run (WF lA zA) (SO lA zA) s k=some rv:=by
 obtain ⟨env,mem,nx,obj,gh⟩:=s;obtain ⟨e0,e4,e5,m4,m5,e7,ea⟩:=h;dsimp only at e0 e4 e5 m4 m5 e7;have M4:=m4;have M5:=m5;simp only [qA] at m4 m5;have ga:nA 272 (L.length + 1)=true:=by rw [rA]; omega
 have eb:=BB L;have nb:(L.map zI).length=L.length:=y9 _;by_cases hc:x.opn=y.opn
 ·rw [if_pos hc,yt] at hk;have c0:=hc;simp [M8,-J,-y6,-y5,y0,e0,e4,e5,m4,m5,c0];exact hk _ ⟨by simp [e0],by simp [e4],by simp [e5],M4,M5,by simpa using e7,ea⟩
 ·rw [if_neg hc] at hk;cases hb:x.opn <;> cases mq:y.opn <;> rw [hb] at m4 hc <;> rw [mq] at m5 hc hk
  all_goals first | exact absurd rfl hc | skip
  all_goals
   rcases e7 with ⟨rfl,e7⟩ | ⟨h0,e7,kk,a7⟩
   ·have ga:nA 272 1=true:=by rw [rA]; omega
    simp [M8,-J,-y6,-y5,y0,e0,e4,e5,e7,m4,m5,hc,ga];refine hk _ ⟨by simp [e0],by simp [e4],by simp [e5],?_,?_,.inr ⟨by simp,?_,79,?_⟩,?_⟩
    ·simp [m4,hb,qA,AA]
    ·simp [m5,mq,qA,AA]
    ·simp; rfl
    ·simp
    ·first | (simp; done) | (simp; omega)
   ·simp [M8,-J,-y6,-y5,y0,e0,e4,e5,e7,a7,ZA,m4,m5,nb,hc,ga,eb];refine hk _ ⟨by simp [e0],by simp [e4],by simp [e5],?_,?_,.inr ⟨by simp,?_,79,?_⟩,?_⟩
    ·simp [m4,hb,qA,AA]
    ·simp [m5,mq,qA,AA]
    ·simp; rfl
    ·simp
    ·first | (simp; done) | (simp; omega)
theorem bt_Uses
  (hk:∀ s',EJ n x y (L++if x.key=y.key/\x.elem=y.elem then [] else [iR n y.key y.elem]) s'->k .nrm s'=some rv):E0.run (WF lA zA) (SO lA zA) s k=some rv:=by
 obtain ⟨env,mem,nx,obj,gh⟩:=s;obtain ⟨e0,e4,e5,m4,m5,e7,ea⟩:=h;dsimp only at e0 e4 e5 m4 m5 e7;have M4:=m4;have M5:=m5;simp only [qA] at m4 m5;have ga:nA 272 (L.length + 1)=true:=by rw [rA]; omega
 have eb:=BB L;have nb:(L.map zI).length=L.length:=y9 _;by_cases hc:x.key=y.key/\x.elem=y.elem
 ·rw [if_pos hc,yt] at hk;obtain ⟨c0,c1⟩:=hc;simp [E0,-J,-y6,-y5,y0,e0,e4,e5,m4,m5,c0,c1];exact hk _ ⟨by simp [e0],by simp [e4],by simp [e5],M4,M5,by simpa using e7,ea⟩
 ·rw [if_neg hc] at hk;by_cases c0:x.key=y.key
  ·skip
   have c1:¬ x.elem=y.elem:=fun e=>hc ⟨c0,e⟩
   rcases e7 with ⟨rfl,e7⟩ | ⟨h0,e7,kk,a7⟩
   ·have ga:nA 272 1=true:=by rw [rA]; omega
    simp [E0,-J,-y6,-y5,y0,e0,e4,e5,e7,m4,m5,c0,c1,ga];refine hk _ ⟨by simp [e0],by simp [e4],by simp [e5],?_,?_,.inr ⟨by simp,?_,100,?_⟩,?_⟩
    ·simp [m4,qA,AA]
    ·simp [m5,qA,AA]
    ·simp; rfl
    ·simp
    ·first | (simp; done) | (simp; omega)
   ·simp [E0,-J,-y6,-y5,y0,e0,e4,e5,e7,a7,ZA,m4,m5,nb,c0,c1,ga,eb];refine hk _ ⟨by simp [e0],by simp [e4],by simp [e5],?_,?_,.inr ⟨by simp,?_,100,?_⟩,?_⟩
    ·simp [m4,qA,AA]
    ·simp [m5,qA,AA]
    ·simp; rfl
    ·simp
    ·first | (simp; done) | (simp; omega)
  ·skip
   rcases e7 with ⟨rfl,e7⟩ | ⟨h0,e7,kk,a7⟩
   ·have ga:nA 272 1=true:=by rw [rA]; omega
    simp [E0,-J,-y6,-y5,y0,e0,e4,e5,e7,m4,m5,c0,ga];refine hk _ ⟨by simp [e0],by simp [e4],by simp [e5],?_,?_,.inr ⟨by simp,?_,100,?_⟩,?_⟩
    ·simp [m4,qA,AA]
    ·simp [m5,qA,AA]
    ·simp; rfl
    ·simp
    ·first | (simp; done) | (simp; omega)
   ·simp [E0,-J,-y6,-y5,y0,e0,e4,e5,e7,a7,ZA,m4,m5,nb,c0,ga,eb];refine hk _ ⟨by simp [e0],by simp [e4],by simp [e5],?_,?_,.inr ⟨by simp,?_,100,?_⟩,?_⟩
    ·simp [m4,qA,AA]
    ·simp [m5,qA,AA]
    ·simp; rfl
    ·simp
    ·first | (simp; done) | (simp; omega)
end
section
variable {rv:RV} {n:Int} {x y:XA} (hx:x.mems.length<=100) (hy:y.mems.length<=100)
include rv n x y hx hy
theorem btl_rem {L:List DD} (hL:L.length<=500) (s:uA) (h:EJ n x y L s) (k:Ex->uA->Option RV)
  (hk:∀ s',EJ n x y (L++mJ n y.mems x.mems) s'->k .nrm s'=some rv):btS6.run (WF lA zA) (SO lA zA) s k=some rv:=by
 obtain ⟨env,mem,nx,obj,gh⟩:=s;obtain ⟨e0,e4,e5,m4,m5,e7,ea⟩:=h;dsimp only at e0 e4 e5 m4 m5 e7;simp [btS6,-J,-y6,-y5,y0];refine bt_rem (n:=n) (x:=x) (y:=y) (L:=L) hx hy hL _ ⟨by simp [e0],by simp [e4],by simp [e5],m4,m5,by simpa using e7,ea⟩ (by simp) _ (fun s' h'=>?_);simp [-J,-y6,-y5,y0];exact hk s' h'
theorem btl_chg (sa:∀ m∈x.mems,m.ok) {L:List DD} (hL:L.length<=500) (s:uA) (h:EJ n x y L s) (k:Ex->uA->Option RV)
  (hk:∀ s',EJ n x y (L++zJ n x.mems y.mems) s'->k .nrm s'=some rv):btS7.run (WF lA zA) (SO lA zA) s k=some rv:=by
 obtain ⟨env,mem,nx,obj,gh⟩:=s;obtain ⟨e0,e4,e5,m4,m5,e7,ea⟩:=h;dsimp only at e0 e4 e5 m4 m5 e7;simp [btS7,-J,-y6,-y5,y0];refine bt_chg (n:=n) (x:=x) (y:=y) (L:=L) hx hy sa hL _ ⟨by simp [e0],by simp [e4],by simp [e5],m4,m5,by simpa using e7,ea⟩ (by simp) _ (fun s' h'=>?_);simp [-J,-y6,-y5,y0];exact hk s' h'
theorem btl_add {L:List DD} (hL:L.length<=500) (s:uA) (h:EJ n x y L s) (k:Ex->uA->Option RV)
  (hk:∀ s',EJ n x y (L++lJ n x.mems y.mems) s'->k .nrm s'=some rv):btS8.run (WF lA zA) (SO lA zA) s k=some rv:=by
 obtain ⟨env,mem,nx,obj,gh⟩:=s;obtain ⟨e0,e4,e5,m4,m5,e7,ea⟩:=h;dsimp only at e0 e4 e5 m4 m5 e7;simp [btS8,-J,-y6,-y5,y0];refine bt_add (n:=n) (x:=x) (y:=y) (L:=L) hx hy hL _ ⟨by simp [e0],by simp [e4],by simp [e5],m4,m5,by simpa using e7,ea⟩ (by simp) _ (fun s' h'=>?_);simp [-J,-y6,-y5,y0];exact hk s' h'
end
section
variable {rv:RV} {n:Int} {x y:XA} (hx:x.syms.length<=100) (hy:y.syms.length<=100) {L:List DD} (hL:L.length<=500) (s:uA) (h:EJ n x y L s) (k:Ex->uA->Option RV)
include rv n x y hx hy L hL s h k
theorem btl_drp
  (hk:∀ s',EJ n x y (L++xJ n y.syms x.syms) s'->k .nrm s'=some rv):btS9.run (WF lA zA) (SO lA zA) s k=some rv:=by
 obtain ⟨env,mem,nx,obj,gh⟩:=s;obtain ⟨e0,e4,e5,m4,m5,e7,ea⟩:=h;dsimp only at e0 e4 e5 m4 m5 e7;simp [btS9,-J,-y6,-y5,y0];refine bt_drp (n:=n) (x:=x) (y:=y) (L:=L) hx hy hL _ ⟨by simp [e0],by simp [e4],by simp [e5],m4,m5,by simpa using e7,ea⟩ (by simp) _ (fun s' h'=>?_);simp [-J,-y6,-y5,y0];exact hk s' h'
theorem btl_syn
  (hk:∀ s',EJ n x y (L++WJ n x.syms y.syms) s'->k .nrm s'=some rv):C8.run (WF lA zA) (SO lA zA) s k=some rv:=by
 obtain ⟨env,mem,nx,obj,gh⟩:=s;obtain ⟨e0,e4,e5,m4,m5,e7,ea⟩:=h;dsimp only at e0 e4 e5 m4 m5 e7;simp [C8,-J,-y6,-y5,y0];refine bt_syn (n:=n) (x:=x) (y:=y) (L:=L) hx hy hL _ ⟨by simp [e0],by simp [e4],by simp [e5],m4,m5,by simpa using e7,ea⟩ (by simp) _ (fun s' h'=>?_);simp [-J,-y6,-y5,y0];exact hk s' h'
theorem btl_sya
  (hk:∀ s',EJ n x y (L++QJ n x.syms y.syms) s'->k .nrm s'=some rv):B8.run (WF lA zA) (SO lA zA) s k=some rv:=by
 obtain ⟨env,mem,nx,obj,gh⟩:=s;obtain ⟨e0,e4,e5,m4,m5,e7,ea⟩:=h;dsimp only at e0 e4 e5 m4 m5 e7;simp [B8,-J,-y6,-y5,y0];refine bt_sya (n:=n) (x:=x) (y:=y) (L:=L) hx hy hL _ ⟨by simp [e0],by simp [e4],by simp [e5],m4,m5,by simpa using e7,ea⟩ (by simp) _ (fun s' h'=>?_);simp [-J,-y6,-y5,y0];exact hk s' h'
end
theorem BO {α β:Type} (f:α->List β) (hf:∀ x,(f x).length<=1):∀ l:List α,(l.flatMap f).length<=l.length
 | []=>by simp
 | x :: l=>by
  rw [List.flatMap_cons,yb,yD];have:=hf x;have:=BO f hf l;omega
theorem nV (n:Int) (q l:List EE):(mJ n q l).length<=l.length:=BO _ (fun x=>by split <;> simp) l
theorem dU (n:Int) (q l:List EE):(zJ n q l).length<=l.length:=BO _ (fun x=>by unfold WK; split; split <;> simp; simp) l
theorem rU (n:Int) (q l:List EE):(lJ n q l).length<=l.length:=BO _ (fun x=>by split <;> simp) l
theorem gU (n:Int) (q l:List AM):(xJ n q l).length<=l.length:=BO _ (fun x=>by split <;> simp) l
theorem GV (n:Int) (q l:List AM):(WJ n q l).length<=l.length:=BO _ (fun x=>by unfold wL; split; split <;> simp; simp) l
theorem syaL_len (n:Int) (q l:List AM):(QJ n q l).length<=l.length:=BO _ (fun x=>by split <;> simp) l
theorem MH {β:Type} (c:Prop) [Decidable c] (e:β):(if c then [] else [e]).length<=1:=by split <;> simp
def EG (L:List DD):AV:=.sl L.isEmpty (L.map zI)
theorem OutA.val {L:List DD} {v:wA} (h:OutA L v):v.v=EG L:=by
 rcases h with ⟨rfl,h⟩ | ⟨h0,h,_⟩
 ·rw [h]; rfl
 ·rw [h,EG];cases L with
  | nil=>exact absurd rfl h0
  | cons=>rfl
theorem m0 (n:Int) (x y:XA) (h1:x.mems.length<=40) (h2:y.mems.length<=40) (h3:x.syms.length<=40) (h4:y.syms.length<=40) (sa:∀ m∈x.mems,m.ok):wB 44 [.int .i64 n,.agg (qA x),.agg (qA y)] (EG (qQ n x y)):=by
 refine cA (c:=gE) rfl rfl ?_;rw [q9];have l1:=MH (x.name=y.name) (rR n y.name);have l2:=MH (x.low=y.low/\x.high=y.high/\x.max=y.max) (eR n y.low y.high y.max);have l3:=MH (x.opn=y.opn) (uR n y.opn);have l4:=MH (x.key=y.key/\x.elem=y.elem) (iR n y.key y.elem);have l5:=nV n y.mems x.mems;have l6:=dU n x.mems y.mems;have l7:=rU n x.mems y.mems;have l8:=gU n y.syms x.syms;have l9:=GV n x.syms y.syms;simp only [nF];have t1:(qA x).length=10:=rfl;have t2:(qA y).length=10:=rfl;simp [btS0,btS1,-J,-y6,-y5,y0,t1,t2];refine bt_Name (n:=n) (x:=x) (y:=y) (L:=[]) (by simp) _ ⟨by simp,by simp,by simp,by simp,by simp,.inl ⟨rfl,by simp⟩,by simp⟩ _ (fun s h=>?_);rw [List.nil_append] at h;rw [bC,nF];refine bt_Bnds (by omega) s h _ (fun s h=>?_);rw [bC,nF];refine bt_Open (by simp only [yb]; omega) s h _ (fun s h=>?_);rw [bC,nF];refine bt_Uses (by simp only [yb]; omega) s h _ (fun s h=>?_);rw [bC,nF];refine btl_rem (by omega) (by omega) (by simp only [yb]; omega) s h _ (fun s h=>?_);rw [bC,nF];refine btl_chg (by omega) (by omega) sa (by simp only [yb]; omega) s h _ (fun s h=>?_);rw [bC,nF];refine btl_add (by omega) (by omega) (by simp only [yb]; omega) s h _ (fun s h=>?_);rw [bC,nF];refine btl_drp (by omega) (by omega) (by simp only [yb]; omega) s h _ (fun s h=>?_);rw [bC,nF];refine btl_syn (by omega) (by omega) (by simp only [yb]; omega) s h _ (fun s h=>?_);rw [bC,nF];refine btl_sya (by omega) (by omega) (by simp only [yb]; omega) s h _ (fun s h=>?_);have e7:=h.e7.val;simp only [yl] at e7;have hd:qQ n x y=MS n x y++(mJ n y.mems x.mems++(zJ n x.mems y.mems++(lJ n x.mems y.mems++(xJ n y.syms x.syms++(WJ n x.syms y.syms++QJ n x.syms y.syms))))):=rfl;rw [MS,yl,yl,yl] at hd;rw [<- hd] at e7;generalize qQ n x y=D at *
 simp only [EG] at e7 ⊢;have hr:gE.res=[.tmp 6]:=rfl;simp [btS12,btS13,-J,-y6,-y5,y0,e7,hr]
def OutR (L:List DD) (s:uA):Prop:=(L=[]/\s.env 7=⟨.sl true [],.ex⟩)\/(L≠[]/\∃ d N,30<=d/\1<N/\N<s.next/\(s.env 7).v=.ref d N 25 0 L.length L.length/\s.mem d N=some (HA (L.map zI)))
structure eI (n:Int) (x y:XA) (L:List DD) (s:uA):Prop where
 e0:(s.env 0).v=.int .i64 n
 e4:(s.env 4).v=.ptr 4 1 0
 e5:(s.env 5).v=.ptr 5 1 0
 m4:s.mem 4 1=some ((qA x).map (⟨·,.no⟩))
 m5:s.mem 5 1=some ((qA y).map (⟨·,.no⟩))
 e7:OutR L s
 nx:1<s.next
 len:L.length<=1000
theorem free_edt (e:DD):(zI e).all AV.free0=true:=rfl
theorem PE (L:List DD):rG (HA (L.map zI)) 25 0 L.length=some (L.map zI):=by
 have:=QI (BB L) (tN _ L free_edt)
 rwa [y9] at this
theorem OutR.of {L:List DD} {s s':uA} (h:OutR L s) (h7:s'.env 7=s.env 7) (hn:s.next<=s'.next) (hm:∀ d N,30<=d->N<s.next->s'.mem d N=s.mem d N):OutR L s':=by
 rcases h with ⟨h0,h⟩ | ⟨h0,d,N,h1,h2,h3,h4,h5⟩
 ·exact .inl ⟨h0,h7.trans h⟩
 ·exact .inr ⟨h0,d,N,h1,h2,Nat.lt_of_lt_of_le h3 hn,by rw [h7]; exact h4,(hm d N h1 h3).trans h5⟩
theorem df_rem {rv:RV} {n:Int} {x y:XA} (hx:x.mems.length<=100) (hy:y.mems.length<=100) {L:List DD} (hL:L.length<=500) (s:uA) (h:eI n x y L s) (e_l:(s.env 99).v=.sl x.mn (x.mems.map WA)) (e_n:(s.env 100).v=.int .i64 x.mems.length) (e_c:(s.env 101).v=.int .i64 0) (k:Ex->uA->Option RV)
  (hk:∀ s',eI n x y (L++mJ n y.mems x.mems) s'->k (.exit 0) s'=some rv):CF QD MC gC s k=some rv:=by
 refine OF x.mems.length (fun i s=>(s.env 99).v=.sl x.mn (x.mems.map WA)/\(s.env 100).v=.int .i64 x.mems.length/\(s.env 101).v=.int .i64 i/\eI n x y (L++mJ n y.mems (x.mems.take i)) s/\(L++mJ n y.mems (x.mems.take i)).length<=L.length + i) (fun e s=>e=.exit 0/\eI n x y (L++mJ n y.mems x.mems) s) (fun i hi s k h ih hk=>?_) _ _ ⟨e_l,e_n,e_c,by simpa [mJ] using h,by simp [mJ]⟩ (fun e s h=>by obtain ⟨rfl,h⟩:=h; exact hk _ h);obtain ⟨e_l,e_n,e_c,hI,hn⟩:=h;obtain ⟨env,mem,nx,obj,gh⟩:=s;obtain ⟨e0,e4,e5,m4,m5,e7,nxt,ea⟩:=hI;dsimp only at e_l e_n e_c e0 e4 e5 m4 m5 nxt;have M4:=m4;have M5:=m5;refine aA ?_;by_cases ia:i<x.mems.length
 ·have da:(i:Int)<x.mems.length:=by omega
  have hw:=mB (i:=i);obtain ⟨q,hq⟩:∃ q,x.mems[i]?=some q:=⟨_,yg ia⟩;have g1:(x.mems.map WA)[i]?=some (WA q):=by rw [yh,hq]; rfl
  have rD:=ID (fun m=>if KB y.mems m.id<0 then [ZY n m.id] else []) hq;have sb:=FJ (IX y q.id (by omega));simp only [zU,qA] at sb;simp only [qA] at m4 m5;simp only [WA] at g1;have db:=ih ia;unfold mJ at db e7 hn ea;rw [rD] at db;generalize cf:L++(x.mems.take i).flatMap (fun m=>if KB y.mems m.id<0 then [ZY n m.id] else [])=L0 at *
  rw [<- yl,cf] at db;have gc:(x.mems.map WA).length=x.mems.length:=y9 _;generalize bc:x.mems.map WA=ml at *
  have ga:nA 272 (L0.length + 1)=true:=by rw [rA]; omega
  have eb:=BB L0;have nb:(L0.map zI).length=L0.length:=y9 _;by_cases hc:KB y.mems q.id<0
  ·rw [if_pos hc] at db;rcases e7 with ⟨rfl,e7⟩ | ⟨h0,d,N,d1,d2,d3,e7,d4⟩
   ·have ga:nA 272 1=true:=by rw [rA]; omega
    dsimp only at e7;simp [gC,-J,-y6,-y5,y0,-EA,-gA,tA,iA,sA,eA,tA,iA,eA,e_l,e_n,e_c,e0,e4,e5,e7,m4,m5,da,hw,gc,g1,sb,hc,ga];refine db _ ⟨by simp [e_l],by simp [e_n],by simp,⟨by simp [e0],by simp [e4],by simp [e5],?_,?_,.inr ⟨by simp,116,nx + 1 + 1 + 1,by omega,by omega,?_,?_,?_⟩,?_,?_⟩,?_⟩
    ·simp [m4,qA,bc]
    ·simp [m5,qA]
    ·simp
    ·simp
    ·simp; rfl
    ·dsimp only; omega
    ·first | (simp; done) | (simp; omega)
    ·first | (simp; done) | (simp; omega)
   ·dsimp only at d3 e7 d4;have n1:¬ N=nx + 1:=by omega
    have n2:¬ 4=d:=by omega
    have n3:¬ 5=d:=by omega
    have n4:¬ d=0:=by omega
    have ig:=PE L0;simp [n1,n4,gC,-J,-y6,-y5,y0,-EA,-gA,tA,iA,sA,eA,tA,iA,eA,e_l,e_n,e_c,e0,e4,e5,e7,d4,m4,m5,da,hw,gc,g1,sb,hc,ga,eb,nb,ig];refine db _ ⟨by simp [e_l],by simp [e_n],by simp,⟨by simp [e0],by simp [e4,n2],by simp [e5,n3],?_,?_,.inr ⟨by simp,116,nx + 1 + 1 + 1,by omega,by omega,?_,?_,?_⟩,?_,?_⟩,?_⟩
    ·simp [m4,qA,bc,n2]
    ·simp [m5,qA,n3]
    ·simp
    ·simp
    ·simp; rfl
    ·dsimp only; omega
    ·first | (simp; done) | (simp; omega)
    ·first | (simp; done) | (simp; omega)
  ·rw [if_neg hc,yt] at db;simp [gC,-J,-y6,-y5,y0,-EA,-gA,tA,iA,sA,eA,tA,iA,eA,e_l,e_n,e_c,e0,e4,e5,m4,m5,da,hw,gc,g1,sb,hc];refine db _ ⟨by simp [e_l],by simp [e_n],by simp,⟨by simp [e0],by simp [e4],by simp [e5],by simp [M4],by simp [M5],e7.of ?_ ?_ ?_,?_,ea⟩,by omega⟩
   ·simp
   ·dsimp only; omega
   ·intro d N h1 h2;have h3:¬ N=nx + 1:=by dsimp only at h2; omega
    simp [h3]
   ·dsimp only; omega
 ·have da:¬ (i:Int)<x.mems.length:=by omega
  have:i=x.mems.length:=by omega
  subst this;rw [List.take_length] at e7 ea;simp [gC,-J,-y6,-y5,y0,-EA,-gA,tA,iA,sA,eA,e_c,e_n,da];exact hk _ _ ⟨rfl,by simp [e0],by simp [e4],by simp [e5],M4,M5,e7.of (by simp) (by simp) (fun _ _ _ _=>rfl),by dsimp only; omega,ea⟩
section
variable {rv:RV} {n:Int} {x y:XA}
include rv n x y
theorem df_add (hx:x.mems.length<=100) (hy:y.mems.length<=100) {L:List DD} (hL:L.length<=500) (s:uA) (h:eI n x y L s) (e_l:(s.env 149).v=.sl y.mn (y.mems.map WA)) (e_n:(s.env 150).v=.int .i64 y.mems.length) (e_c:(s.env 151).v=.int .i64 0) (k:Ex->uA->Option RV)
  (hk:∀ s',eI n x y (L++lJ n x.mems y.mems) s'->k (.exit 4) s'=some rv):CF QD MC fC s k=some rv:=by
 refine OF y.mems.length (fun i s=>(s.env 149).v=.sl y.mn (y.mems.map WA)/\(s.env 150).v=.int .i64 y.mems.length/\(s.env 151).v=.int .i64 i/\eI n x y (L++lJ n x.mems (y.mems.take i)) s/\(L++lJ n x.mems (y.mems.take i)).length<=L.length + i) (fun e s=>e=.exit 4/\eI n x y (L++lJ n x.mems y.mems) s) (fun i hi s k h ih hk=>?_) _ _ ⟨e_l,e_n,e_c,by simpa [lJ] using h,by simp [lJ]⟩ (fun e s h=>by obtain ⟨rfl,h⟩:=h; exact hk _ h);obtain ⟨e_l,e_n,e_c,hI,hn⟩:=h;obtain ⟨env,mem,nx,obj,gh⟩:=s;obtain ⟨e0,e4,e5,m4,m5,e7,nxt,ea⟩:=hI;dsimp only at e_l e_n e_c e0 e4 e5 m4 m5 nxt;have M4:=m4;have M5:=m5;refine aA ?_;by_cases ia:i<y.mems.length
 ·have da:(i:Int)<y.mems.length:=by omega
  have hw:=mB (i:=i);obtain ⟨q,hq⟩:∃ q,y.mems[i]?=some q:=⟨_,yg ia⟩;have g1:(y.mems.map WA)[i]?=some (WA q):=by rw [yh,hq]; rfl
  have rD:=ID (fun m=>if KB x.mems m.id<0 then [LY n m] else []) hq;have sb:=FJ (IX x q.id (by omega));simp only [zU,qA] at sb;simp only [qA] at m4 m5;simp only [WA] at g1;have db:=ih ia;unfold lJ at db e7 hn ea;rw [rD] at db;generalize cf:L++(y.mems.take i).flatMap (fun m=>if KB x.mems m.id<0 then [LY n m] else [])=L0 at *
  rw [<- yl,cf] at db;have gc:(y.mems.map WA).length=y.mems.length:=y9 _;generalize bc:y.mems.map WA=ml at *
  have ga:nA 272 (L0.length + 1)=true:=by rw [rA]; omega
  have eb:=BB L0;have nb:(L0.map zI).length=L0.length:=y9 _;by_cases hc:KB x.mems q.id<0
  ·rw [if_pos hc] at db;rcases e7 with ⟨rfl,e7⟩ | ⟨h0,d,N,d1,d2,d3,e7,d4⟩
   ·have ga:nA 272 1=true:=by rw [rA]; omega
    dsimp only at e7;simp [fC,-J,-y6,-y5,y0,-EA,-gA,tA,iA,sA,eA,tA,iA,eA,e_l,e_n,e_c,e0,e4,e5,e7,m4,m5,da,hw,gc,g1,sb,hc,ga];refine db _ ⟨by simp [e_l],by simp [e_n],by simp,⟨by simp [e0],by simp [e4],by simp [e5],?_,?_,.inr ⟨by simp,165,nx + 1 + 1 + 1,by omega,by omega,?_,?_,?_⟩,?_,?_⟩,?_⟩
    ·simp [m4,qA,bc]
    ·simp [m5,qA,bc]
    ·simp
    ·simp
    ·simp; rfl
    ·dsimp only; omega
    ·first | (simp; done) | (simp; omega)
    ·first | (simp; done) | (simp; omega)
   ·dsimp only at d3 e7 d4;have n1:¬ N=nx + 1:=by omega
    have n2:¬ 4=d:=by omega
    have n3:¬ 5=d:=by omega
    have n4:¬ d=0:=by omega
    have ig:=PE L0;simp [n1,n4,fC,-J,-y6,-y5,y0,-EA,-gA,tA,iA,sA,eA,tA,iA,eA,e_l,e_n,e_c,e0,e4,e5,e7,d4,m4,m5,da,hw,gc,g1,sb,hc,ga,eb,nb,ig];refine db _ ⟨by simp [e_l],by simp [e_n],by simp,⟨by simp [e0],by simp [e4,n2],by simp [e5,n3],?_,?_,.inr ⟨by simp,165,nx + 1 + 1 + 1,by omega,by omega,?_,?_,?_⟩,?_,?_⟩,?_⟩
    ·simp [m4,qA,bc,n2]
    ·simp [m5,qA,bc,n3]
    ·simp
    ·simp
    ·simp; rfl
    ·dsimp only; omega
    ·first | (simp; done) | (simp; omega)
    ·first | (simp; done) | (simp; omega)
  ·rw [if_neg hc,yt] at db;simp [fC,-J,-y6,-y5,y0,-EA,-gA,tA,iA,sA,eA,tA,iA,eA,e_l,e_n,e_c,e0,e4,e5,m4,m5,da,hw,gc,g1,sb,hc];refine db _ ⟨by simp [e_l],by simp [e_n],by simp,⟨by simp [e0],by simp [e4],by simp [e5],by simp [M4],by simp [M5],e7.of ?_ ?_ ?_,?_,ea⟩,by omega⟩
   ·simp
   ·dsimp only; omega
   ·intro d N h1 h2;have h3:¬ N=nx + 1:=by dsimp only at h2; omega
    simp [h3]
   ·dsimp only; omega
 ·have da:¬ (i:Int)<y.mems.length:=by omega
  have:i=y.mems.length:=by omega
  subst this;rw [List.take_length] at e7 ea;simp [fC,-J,-y6,-y5,y0,-EA,-gA,tA,iA,sA,eA,e_c,e_n,da];exact hk _ _ ⟨rfl,by simp [e0],by simp [e4],by simp [e5],M4,M5,e7.of (by simp) (by simp) (fun _ _ _ _=>rfl),by dsimp only; omega,ea⟩
theorem df_drp (hx:x.syms.length<=100) (hy:y.syms.length<=100) {L:List DD} (hL:L.length<=500) (s:uA) (h:eI n x y L s) (e_l:(s.env 168).v=.sl x.sn (x.syms.map FA)) (e_n:(s.env 169).v=.int .i64 x.syms.length) (e_c:(s.env 170).v=.int .i64 0) (k:Ex->uA->Option RV)
  (hk:∀ s',eI n x y (L++xJ n y.syms x.syms) s'->k (.exit 6) s'=some rv):CF QD MC dC s k=some rv:=by
 refine OF x.syms.length (fun i s=>(s.env 168).v=.sl x.sn (x.syms.map FA)/\(s.env 169).v=.int .i64 x.syms.length/\(s.env 170).v=.int .i64 i/\eI n x y (L++xJ n y.syms (x.syms.take i)) s/\(L++xJ n y.syms (x.syms.take i)).length<=L.length + i) (fun e s=>e=.exit 6/\eI n x y (L++xJ n y.syms x.syms) s) (fun i hi s k h ih hk=>?_) _ _ ⟨e_l,e_n,e_c,by simpa [xJ] using h,by simp [xJ]⟩ (fun e s h=>by obtain ⟨rfl,h⟩:=h; exact hk _ h);obtain ⟨e_l,e_n,e_c,hI,hn⟩:=h;obtain ⟨env,mem,nx,obj,gh⟩:=s;obtain ⟨e0,e4,e5,m4,m5,e7,nxt,ea⟩:=hI;dsimp only at e_l e_n e_c e0 e4 e5 m4 m5 nxt;have M4:=m4;have M5:=m5;refine aA ?_;by_cases ia:i<x.syms.length
 ·have da:(i:Int)<x.syms.length:=by omega
  have hw:=mB (i:=i);obtain ⟨q,hq⟩:∃ q,x.syms[i]?=some q:=⟨_,yg ia⟩;have g1:(x.syms.map FA)[i]?=some (FA q):=by rw [yh,hq]; rfl
  have rD:=ID (fun m=>if ZB y.syms m.id<0 then [jU n m.id] else []) hq;have sb:=FJ (PX y q.id (by omega));simp only [zU,qA] at sb;simp only [qA] at m4 m5;simp only [FA] at g1;have db:=ih ia;unfold xJ at db e7 hn ea;rw [rD] at db;generalize cf:L++(x.syms.take i).flatMap (fun m=>if ZB y.syms m.id<0 then [jU n m.id] else [])=L0 at *
  rw [<- yl,cf] at db;have gc:(x.syms.map FA).length=x.syms.length:=y9 _;generalize bc:x.syms.map FA=ml at *
  have ga:nA 272 (L0.length + 1)=true:=by rw [rA]; omega
  have eb:=BB L0;have nb:(L0.map zI).length=L0.length:=y9 _;by_cases hc:ZB y.syms q.id<0
  ·rw [if_pos hc] at db;rcases e7 with ⟨rfl,e7⟩ | ⟨h0,d,N,d1,d2,d3,e7,d4⟩
   ·have ga:nA 272 1=true:=by rw [rA]; omega
    dsimp only at e7;simp [dC,-J,-y6,-y5,y0,-EA,-gA,tA,iA,sA,eA,tA,iA,eA,e_l,e_n,e_c,e0,e4,e5,e7,m4,m5,da,hw,gc,g1,sb,hc,ga];refine db _ ⟨by simp [e_l],by simp [e_n],by simp,⟨by simp [e0],by simp [e4],by simp [e5],?_,?_,.inr ⟨by simp,185,nx + 1 + 1 + 1,by omega,by omega,?_,?_,?_⟩,?_,?_⟩,?_⟩
    ·simp [m4,qA,bc]
    ·simp [m5,qA,bc]
    ·simp
    ·simp
    ·simp; rfl
    ·dsimp only; omega
    ·first | (simp; done) | (simp; omega)
    ·first | (simp; done) | (simp; omega)
   ·dsimp only at d3 e7 d4;have n1:¬ N=nx + 1:=by omega
    have n2:¬ 4=d:=by omega
    have n3:¬ 5=d:=by omega
    have n4:¬ d=0:=by omega
    have ig:=PE L0;simp [n1,n4,dC,-J,-y6,-y5,y0,-EA,-gA,tA,iA,sA,eA,tA,iA,eA,e_l,e_n,e_c,e0,e4,e5,e7,d4,m4,m5,da,hw,gc,g1,sb,hc,ga,eb,nb,ig];refine db _ ⟨by simp [e_l],by simp [e_n],by simp,⟨by simp [e0],by simp [e4,n2],by simp [e5,n3],?_,?_,.inr ⟨by simp,185,nx + 1 + 1 + 1,by omega,by omega,?_,?_,?_⟩,?_,?_⟩,?_⟩
    ·simp [m4,qA,bc,n2]
    ·simp [m5,qA,bc,n3]
    ·simp
    ·simp
    ·simp; rfl
    ·dsimp only; omega
    ·first | (simp; done) | (simp; omega)
    ·first | (simp; done) | (simp; omega)
  ·rw [if_neg hc,yt] at db;simp [dC,-J,-y6,-y5,y0,-EA,-gA,tA,iA,sA,eA,tA,iA,eA,e_l,e_n,e_c,e0,e4,e5,m4,m5,da,hw,gc,g1,sb,hc];refine db _ ⟨by simp [e_l],by simp [e_n],by simp,⟨by simp [e0],by simp [e4],by simp [e5],by simp [M4],by simp [M5],e7.of ?_ ?_ ?_,?_,ea⟩,by omega⟩
   ·simp
   ·dsimp only; omega
   ·intro d N h1 h2;have h3:¬ N=nx + 1:=by dsimp only at h2; omega
    simp [h3]
   ·dsimp only; omega
 ·have da:¬ (i:Int)<x.syms.length:=by omega
  have:i=x.syms.length:=by omega
  subst this;rw [List.take_length] at e7 ea;simp [dC,-J,-y6,-y5,y0,-EA,-gA,tA,iA,sA,eA,e_c,e_n,da];exact hk _ _ ⟨rfl,by simp [e0],by simp [e4],by simp [e5],M4,M5,e7.of (by simp) (by simp) (fun _ _ _ _=>rfl),by dsimp only; omega,ea⟩
theorem df_sya (hx:x.syms.length<=100) (hy:y.syms.length<=100) {L:List DD} (hL:L.length<=500) (s:uA) (h:eI n x y L s) (e_l:(s.env 219).v=.sl y.sn (y.syms.map FA)) (e_n:(s.env 220).v=.int .i64 y.syms.length) (e_c:(s.env 221).v=.int .i64 0) (k:Ex->uA->Option RV)
  (hk:∀ s',eI n x y (L++QJ n x.syms y.syms) s'->k (.exit 10) s'=some rv):CF QD MC sC s k=some rv:=by
 refine OF y.syms.length (fun i s=>(s.env 219).v=.sl y.sn (y.syms.map FA)/\(s.env 220).v=.int .i64 y.syms.length/\(s.env 221).v=.int .i64 i/\eI n x y (L++QJ n x.syms (y.syms.take i)) s/\(L++QJ n x.syms (y.syms.take i)).length<=L.length + i) (fun e s=>e=.exit 10/\eI n x y (L++QJ n x.syms y.syms) s) (fun i hi s k h ih hk=>?_) _ _ ⟨e_l,e_n,e_c,by simpa [QJ] using h,by simp [QJ]⟩ (fun e s h=>by obtain ⟨rfl,h⟩:=h; exact hk _ h);obtain ⟨e_l,e_n,e_c,hI,hn⟩:=h;obtain ⟨env,mem,nx,obj,gh⟩:=s;obtain ⟨e0,e4,e5,m4,m5,e7,nxt,ea⟩:=hI;dsimp only at e_l e_n e_c e0 e4 e5 m4 m5 nxt;have M4:=m4;have M5:=m5;refine aA ?_;by_cases ia:i<y.syms.length
 ·have da:(i:Int)<y.syms.length:=by omega
  have hw:=mB (i:=i);obtain ⟨q,hq⟩:∃ q,y.syms[i]?=some q:=⟨_,yg ia⟩;have g1:(y.syms.map FA)[i]?=some (FA q):=by rw [yh,hq]; rfl
  have rD:=ID (fun m=>if ZB x.syms m.id<0 then [XS n m] else []) hq;have sb:=FJ (PX x q.id (by omega));simp only [zU,qA] at sb;simp only [qA] at m4 m5;simp only [FA] at g1;have db:=ih ia;unfold QJ at db e7 hn ea;rw [rD] at db;generalize cf:L++(y.syms.take i).flatMap (fun m=>if ZB x.syms m.id<0 then [XS n m] else [])=L0 at *
  rw [<- yl,cf] at db;have gc:(y.syms.map FA).length=y.syms.length:=y9 _;generalize bc:y.syms.map FA=ml at *
  have ga:nA 272 (L0.length + 1)=true:=by rw [rA]; omega
  have eb:=BB L0;have nb:(L0.map zI).length=L0.length:=y9 _;by_cases hc:ZB x.syms q.id<0
  ·rw [if_pos hc] at db;rcases e7 with ⟨rfl,e7⟩ | ⟨h0,d,N,d1,d2,d3,e7,d4⟩
   ·have ga:nA 272 1=true:=by rw [rA]; omega
    dsimp only at e7;simp [sC,-J,-y6,-y5,y0,-EA,-gA,tA,iA,sA,eA,tA,iA,eA,e_l,e_n,e_c,e0,e4,e5,e7,m4,m5,da,hw,gc,g1,sb,hc,ga];refine db _ ⟨by simp [e_l],by simp [e_n],by simp,⟨by simp [e0],by simp [e4],by simp [e5],?_,?_,.inr ⟨by simp,235,nx + 1 + 1 + 1,by omega,by omega,?_,?_,?_⟩,?_,?_⟩,?_⟩
    ·simp [m4,qA,bc]
    ·simp [m5,qA,bc]
    ·simp
    ·simp
    ·simp; rfl
    ·dsimp only; omega
    ·first | (simp; done) | (simp; omega)
    ·first | (simp; done) | (simp; omega)
   ·dsimp only at d3 e7 d4;have n1:¬ N=nx + 1:=by omega
    have n2:¬ 4=d:=by omega
    have n3:¬ 5=d:=by omega
    have n4:¬ d=0:=by omega
    have ig:=PE L0;simp [n1,n4,sC,-J,-y6,-y5,y0,-EA,-gA,tA,iA,sA,eA,tA,iA,eA,e_l,e_n,e_c,e0,e4,e5,e7,d4,m4,m5,da,hw,gc,g1,sb,hc,ga,eb,nb,ig];refine db _ ⟨by simp [e_l],by simp [e_n],by simp,⟨by simp [e0],by simp [e4,n2],by simp [e5,n3],?_,?_,.inr ⟨by simp,235,nx + 1 + 1 + 1,by omega,by omega,?_,?_,?_⟩,?_,?_⟩,?_⟩
    ·simp [m4,qA,bc,n2]
    ·simp [m5,qA,bc,n3]
    ·simp
    ·simp
    ·simp; rfl
    ·dsimp only; omega
    ·first | (simp; done) | (simp; omega)
    ·first | (simp; done) | (simp; omega)
  ·rw [if_neg hc,yt] at db;simp [sC,-J,-y6,-y5,y0,-EA,-gA,tA,iA,sA,eA,tA,iA,eA,e_l,e_n,e_c,e0,e4,e5,m4,m5,da,hw,gc,g1,sb,hc];refine db _ ⟨by simp [e_l],by simp [e_n],by simp,⟨by simp [e0],by simp [e4],by simp [e5],by simp [M4],by simp [M5],e7.of ?_ ?_ ?_,?_,ea⟩,by omega⟩
   ·simp
   ·dsimp only; omega
   ·intro d N h1 h2;have h3:¬ N=nx + 1:=by dsimp only at h2; omega
    simp [h3]
   ·dsimp only; omega
 ·have da:¬ (i:Int)<y.syms.length:=by omega
  have:i=y.syms.length:=by omega
  subst this;rw [List.take_length] at e7 ea;simp [sC,-J,-y6,-y5,y0,-EA,-gA,tA,iA,sA,eA,e_c,e_n,da];exact hk _ _ ⟨rfl,by simp [e0],by simp [e4],by simp [e5],M4,M5,e7.of (by simp) (by simp) (fun _ _ _ _=>rfl),by dsimp only; omega,ea⟩
theorem df_chg (hx:x.mems.length<=100) (hy:y.mems.length<=100) (sa:∀ m∈x.mems,m.ok) {L:List DD} (hL:L.length<=500) (s:uA) (h:eI n x y L s) (e_l:(s.env 119).v=.sl y.mn (y.mems.map WA)) (e_n:(s.env 120).v=.int .i64 y.mems.length) (e_c:(s.env 121).v=.int .i64 0) (k:Ex->uA->Option RV)
  (hk:∀ s',eI n x y (L++zJ n x.mems y.mems) s'->k (.exit 2) s'=some rv):CF QD MC FB s k=some rv:=by
 refine OF y.mems.length (fun i s=>(s.env 119).v=.sl y.mn (y.mems.map WA)/\(s.env 120).v=.int .i64 y.mems.length/\(s.env 121).v=.int .i64 i/\eI n x y (L++zJ n x.mems (y.mems.take i)) s/\(L++zJ n x.mems (y.mems.take i)).length<=L.length + i) (fun e s=>e=.exit 2/\eI n x y (L++zJ n x.mems y.mems) s) (fun i hi s k h ih hk=>?_) _ _ ⟨e_l,e_n,e_c,by simpa [zJ] using h,by simp [zJ]⟩ (fun e s h=>by obtain ⟨rfl,h⟩:=h; exact hk _ h);obtain ⟨e_l,e_n,e_c,hI,hn⟩:=h;obtain ⟨env,mem,nx,obj,gh⟩:=s;obtain ⟨e0,e4,e5,m4,m5,e7,nxt,ea⟩:=hI;dsimp only at e_l e_n e_c e0 e4 e5 m4 m5 nxt;have M4:=m4;have M5:=m5;refine aA ?_;by_cases ia:i<y.mems.length
 ·have da:(i:Int)<y.mems.length:=by omega
  have hw:=mB (i:=i);obtain ⟨q,hq⟩:∃ q,y.mems[i]?=some q:=⟨_,yg ia⟩;have g1:(y.mems.map WA)[i]?=some (WA q):=by rw [yh,hq]; rfl
  have rD:=ID (WK n x.mems) hq;have sb:=FJ (IX x q.id (by omega));simp only [zU,qA] at sb;simp only [qA] at m4 m5;simp only [WA] at g1;have db:=ih ia;unfold zJ at db e7 hn ea;rw [rD] at db;generalize cf:L++(y.mems.take i).flatMap (WK n x.mems)=L0 at *
  rw [<- yl,cf] at db;have gc:(y.mems.map WA).length=y.mems.length:=y9 _;have ga:nA 272 (L0.length + 1)=true:=by rw [rA]; omega
  have eb:=BB L0;have nb:(L0.map zI).length=L0.length:=y9 _;have rd:(x.mems.map WA).length=x.mems.length:=y9 _;by_cases hc:KB x.mems q.id<0
  ·have hf:(WK n x.mems) q=[]:=by
    unfold WK;split
    ·rw [if_neg (by omega)]
    ·rfl
   rw [hf,yt] at db;have xb:¬ 0<=KB x.mems q.id:=by omega
   generalize bc:y.mems.map WA=ml at *
   generalize ad:x.mems.map WA=mlx at *
   simp [FB,-J,-y6,-y5,y0,-EA,-gA,tA,iA,sA,eA,tA,iA,eA,e_l,e_n,e_c,e0,e4,e5,m4,m5,da,hw,gc,rd,xb, g1,sb,hc];refine db _ ⟨by simp [e_l],by simp [e_n],by simp,⟨by simp [e0],by simp [e4],by simp [e5],by simp [M4],by simp [M5],e7.of ?_ ?_ ?_,?_,ea⟩,by omega⟩
   ·simp
   ·dsimp only; omega
   ·intro d N h1 h2;have h3:¬ N=nx + 1:=by dsimp only at h2; omega
    simp [h3]
   ·dsimp only; omega
  ·have xb:0<=KB x.mems q.id:=by omega
   obtain ⟨q',bi,_⟩:=nI (fun m=>decide (m.id=q.id)) x.mems (fun e=>by unfold KB at xb; omega);have ae:x.mems[(KB x.mems q.id).toNat]?=some q':=bi;have zl:KB x.mems q.id<x.mems.length:=ZT _ _;have g3:(x.mems.map WA)[(KB x.mems q.id).toNat]?=some (WA q'):=by rw [yh,ae]; rfl
   have z0:0<=KB x.mems q.id:=xb;have dm:=FJ (Z9 q' q (sa q' (List.mem_of_getElem? ae)));simp only [zU,WA] at dm;simp only [WA] at g3;by_cases ht:q'.same q=true
   ·have hf:(WK n x.mems) q=[]:=by
     unfold WK;rw [ae];dsimp only;rw [if_neg (by simp [ht])]
    rw [hf,yt] at db;generalize bc:y.mems.map WA=ml at *
    generalize ad:x.mems.map WA=mlx at *
    generalize KB x.mems q.id=z at *
    rw [ht] at dm;simp [FB,-J,-y6,-y5,y0,-EA,-gA,tA,iA,sA,eA,tA,iA,eA,e_l,e_n,e_c,e0,e4,e5,m4,m5,da,hw,gc,rd,g3,z0,zl,dm,ht,xb, g1,sb,hc];refine db _ ⟨by simp [e_l],by simp [e_n],by simp,⟨by simp [e0],by simp [e4],by simp [e5],by simp [M4],by simp [M5],e7.of ?_ ?_ ?_,?_,ea⟩,by omega⟩
    ·simp
    ·dsimp only; omega
    ·intro d N h1 h2;have h3:¬ N=nx + 1:=by dsimp only at h2; omega
     simp [h3]
    ·dsimp only; omega
   ·have hf:(WK n x.mems) q=[D9 n q]:=by
     unfold WK;rw [ae];dsimp only;rw [if_pos ⟨xb,by simpa using ht⟩]
    rw [hf] at db;generalize bc:y.mems.map WA=ml at *
    generalize ad:x.mems.map WA=mlx at *
    generalize KB x.mems q.id=z at *
    rw [Bool.eq_false_iff.2 ht] at dm;rcases e7 with ⟨rfl,e7⟩ | ⟨h0,d,N,d1,d2,d3,e7,d4⟩
    ·have ga:nA 272 1=true:=by rw [rA]; omega
     dsimp only at e7;simp [FB,-J,-y6,-y5,y0,-EA,-gA,tA,iA,sA,eA,tA,iA,eA,e_l,e_n,e_c,e0,e4,e5,e7,m4,m5,da,hw,gc,rd,g3,z0,zl,dm,ht,xb, g1,sb,hc,ga];refine db _ ⟨by simp [e_l],by simp [e_n],by simp,⟨by simp [e0],by simp [e4],by simp [e5],?_,?_,.inr ⟨by simp,146,nx + 1 + 1 + 1 + 1,by omega,by omega,?_,?_,?_⟩,?_,?_⟩,?_⟩
     ·simp [m4,qA,bc,ad]
     ·simp [m5,qA,bc,ad]
     ·simp
     ·simp
     ·simp; rfl
     ·dsimp only; omega
     ·first | (simp; done) | (simp; omega)
     ·first | (simp; done) | (simp; omega)
    ·dsimp only at d3 e7 d4;have n1:¬ N=nx + 1:=by omega
     have n2:¬ 4=d:=by omega
     have n3:¬ 5=d:=by omega
     have n4:¬ d=0:=by omega
     have ig:=PE L0;simp [n1,n4,FB,-J,-y6,-y5,y0,-EA,-gA,tA,iA,sA,eA,tA,iA,eA,e_l,e_n,e_c,e0,e4,e5,e7,d4,m4,m5,da,hw,gc,rd,g3,z0,zl,dm,ht,xb, g1,sb,hc,ga,eb,nb,ig];refine db _ ⟨by simp [e_l],by simp [e_n],by simp,⟨by simp [e0],by simp [e4,n2],by simp [e5,n3],?_,?_,.inr ⟨by simp,146,nx + 1 + 1 + 1 + 1,by omega,by omega,?_,?_,?_⟩,?_,?_⟩,?_⟩
     ·simp [m4,qA,bc,ad,n2]
     ·simp [m5,qA,bc,ad,n3]
     ·simp
     ·simp
     ·simp; rfl
     ·dsimp only; omega
     ·first | (simp; done) | (simp; omega)
     ·first | (simp; done) | (simp; omega)
 ·have da:¬ (i:Int)<y.mems.length:=by omega
  have:i=y.mems.length:=by omega
  subst this;rw [List.take_length] at e7 ea;simp [FB,-J,-y6,-y5,y0,-EA,-gA,tA,iA,sA,eA,e_c,e_n,da];exact hk _ _ ⟨rfl,by simp [e0],by simp [e4],by simp [e5],M4,M5,e7.of (by simp) (by simp) (fun _ _ _ _=>rfl),by dsimp only; omega,ea⟩
theorem df_syn (hx:x.syms.length<=100) (hy:y.syms.length<=100) {L:List DD} (hL:L.length<=500) (s:uA) (h:eI n x y L s) (e_l:(s.env 188).v=.sl y.sn (y.syms.map FA)) (e_n:(s.env 189).v=.int .i64 y.syms.length) (e_c:(s.env 190).v=.int .i64 0) (k:Ex->uA->Option RV)
  (hk:∀ s',eI n x y (L++WJ n x.syms y.syms) s'->k (.exit 8) s'=some rv):CF QD MC DB s k=some rv:=by
 refine OF y.syms.length (fun i s=>(s.env 188).v=.sl y.sn (y.syms.map FA)/\(s.env 189).v=.int .i64 y.syms.length/\(s.env 190).v=.int .i64 i/\eI n x y (L++WJ n x.syms (y.syms.take i)) s/\(L++WJ n x.syms (y.syms.take i)).length<=L.length + i) (fun e s=>e=.exit 8/\eI n x y (L++WJ n x.syms y.syms) s) (fun i hi s k h ih hk=>?_) _ _ ⟨e_l,e_n,e_c,by simpa [WJ] using h,by simp [WJ]⟩ (fun e s h=>by obtain ⟨rfl,h⟩:=h; exact hk _ h);obtain ⟨e_l,e_n,e_c,hI,hn⟩:=h;obtain ⟨env,mem,nx,obj,gh⟩:=s;obtain ⟨e0,e4,e5,m4,m5,e7,nxt,ea⟩:=hI;dsimp only at e_l e_n e_c e0 e4 e5 m4 m5 nxt;have M4:=m4;have M5:=m5;refine aA ?_;by_cases ia:i<y.syms.length
 ·have da:(i:Int)<y.syms.length:=by omega
  have hw:=mB (i:=i);obtain ⟨q,hq⟩:∃ q,y.syms[i]?=some q:=⟨_,yg ia⟩;have g1:(y.syms.map FA)[i]?=some (FA q):=by rw [yh,hq]; rfl
  have rD:=ID (wL n x.syms) hq;have sb:=FJ (PX x q.id (by omega));simp only [zU,qA] at sb;simp only [qA] at m4 m5;simp only [FA] at g1;have db:=ih ia;unfold WJ at db e7 hn ea;rw [rD] at db;generalize cf:L++(y.syms.take i).flatMap (wL n x.syms)=L0 at *
  rw [<- yl,cf] at db;have gc:(y.syms.map FA).length=y.syms.length:=y9 _;have ga:nA 272 (L0.length + 1)=true:=by rw [rA]; omega
  have eb:=BB L0;have nb:(L0.map zI).length=L0.length:=y9 _;have rd:(x.syms.map FA).length=x.syms.length:=y9 _;by_cases hc:ZB x.syms q.id<0
  ·have hf:(wL n x.syms) q=[]:=by
    unfold wL;split
    ·rw [if_neg (by omega)]
    ·rfl
   rw [hf,yt] at db;have xb:¬ 0<=ZB x.syms q.id:=by omega
   generalize bc:y.syms.map FA=ml at *
   generalize ad:x.syms.map FA=mlx at *
   simp [DB,-J,-y6,-y5,y0,-EA,-gA,tA,iA,sA,eA,tA,iA,eA,e_l,e_n,e_c,e0,e4,e5,m4,m5,da,hw,gc,rd,xb, g1,sb,hc];refine db _ ⟨by simp [e_l],by simp [e_n],by simp,⟨by simp [e0],by simp [e4],by simp [e5],by simp [M4],by simp [M5],e7.of ?_ ?_ ?_,?_,ea⟩,by omega⟩
   ·simp
   ·dsimp only; omega
   ·intro d N h1 h2;have h3:¬ N=nx + 1:=by dsimp only at h2; omega
    simp [h3]
   ·dsimp only; omega
  ·have xb:0<=ZB x.syms q.id:=by omega
   obtain ⟨q',bi,_⟩:=nI (fun m=>decide (m.id=q.id)) x.syms (fun e=>by unfold ZB at xb; omega);have ae:x.syms[(ZB x.syms q.id).toNat]?=some q':=bi;have zl:ZB x.syms q.id<x.syms.length:=ZT _ _;have g3:(x.syms.map FA)[(ZB x.syms q.id).toNat]?=some (FA q'):=by rw [yh,ae]; rfl
   have z0:0<=ZB x.syms q.id:=xb;simp only [FA] at g3;by_cases ht:q'.name=q.name
   ·have hf:(wL n x.syms) q=[]:=by
     unfold wL;rw [ae];dsimp only;rw [if_neg (by simp [ht])]
    rw [hf,yt] at db;generalize bc:y.syms.map FA=ml at *
    generalize ad:x.syms.map FA=mlx at *
    generalize ZB x.syms q.id=z at *
    simp [DB,-J,-y6,-y5,y0,-EA,-gA,tA,iA,sA,eA,tA,iA,eA,e_l,e_n,e_c,e0,e4,e5,m4,m5,da,hw,gc,rd,g3,z0,zl,ht,xb, g1,sb,hc];refine db _ ⟨by simp [e_l],by simp [e_n],by simp,⟨by simp [e0],by simp [e4],by simp [e5],by simp [M4],by simp [M5],e7.of ?_ ?_ ?_,?_,ea⟩,by omega⟩
    ·simp
    ·dsimp only; omega
    ·intro d N h1 h2;have h3:¬ N=nx + 1:=by dsimp only at h2; omega
     simp [h3]
    ·dsimp only; omega
   ·have hf:(wL n x.syms) q=[XS n q]:=by
     unfold wL;rw [ae];dsimp only;rw [if_pos ⟨xb,by simpa using ht⟩]
    rw [hf] at db;generalize bc:y.syms.map FA=ml at *
    generalize ad:x.syms.map FA=mlx at *
    generalize ZB x.syms q.id=z at *
    rcases e7 with ⟨rfl,e7⟩ | ⟨h0,d,N,d1,d2,d3,e7,d4⟩
    ·have ga:nA 272 1=true:=by rw [rA]; omega
     dsimp only at e7;simp [DB,-J,-y6,-y5,y0,-EA,-gA,tA,iA,sA,eA,tA,iA,eA,e_l,e_n,e_c,e0,e4,e5,e7,m4,m5,da,hw,gc,rd,g3,z0,zl,ht,xb, g1,sb,hc,ga];refine db _ ⟨by simp [e_l],by simp [e_n],by simp,⟨by simp [e0],by simp [e4],by simp [e5],?_,?_,.inr ⟨by simp,216,nx + 1 + 1 + 1 + 1,by omega,by omega,?_,?_,?_⟩,?_,?_⟩,?_⟩
     ·simp [m4,qA,bc,ad]
     ·simp [m5,qA,bc,ad]
     ·simp
     ·simp
     ·simp; rfl
     ·dsimp only; omega
     ·first | (simp; done) | (simp; omega)
     ·first | (simp; done) | (simp; omega)
    ·dsimp only at d3 e7 d4;have n1:¬ N=nx + 1:=by omega
     have n2:¬ 4=d:=by omega
     have n3:¬ 5=d:=by omega
     have n4:¬ d=0:=by omega
     have ig:=PE L0;simp [n1,n4,DB,-J,-y6,-y5,y0,-EA,-gA,tA,iA,sA,eA,tA,iA,eA,e_l,e_n,e_c,e0,e4,e5,e7,d4,m4,m5,da,hw,gc,rd,g3,z0,zl,ht,xb, g1,sb,hc,ga,eb,nb,ig];refine db _ ⟨by simp [e_l],by simp [e_n],by simp,⟨by simp [e0],by simp [e4,n2],by simp [e5,n3],?_,?_,.inr ⟨by simp,216,nx + 1 + 1 + 1 + 1,by omega,by omega,?_,?_,?_⟩,?_,?_⟩,?_⟩
     ·simp [m4,qA,bc,ad,n2]
     ·simp [m5,qA,bc,ad,n3]
     ·simp
     ·simp
     ·simp; rfl
     ·dsimp only; omega
     ·first | (simp; done) | (simp; omega)
     ·first | (simp; done) | (simp; omega)
 ·have da:¬ (i:Int)<y.syms.length:=by omega
  have:i=y.syms.length:=by omega
  subst this;rw [List.take_length] at e7 ea;simp [DB,-J,-y6,-y5,y0,-EA,-gA,tA,iA,sA,eA,e_c,e_n,da];exact hk _ _ ⟨rfl,by simp [e0],by simp [e4],by simp [e5],M4,M5,e7.of (by simp) (by simp) (fun _ _ _ _=>rfl),by dsimp only; omega,ea⟩
end
def dfS0:C:=.reg [⟨(.some 4),(.box 10 (.t 1)),.none⟩,⟨(.some 5),(.box 10 (.t 2)),.none⟩,⟨(.some 6),(.mv (.c (.sl .true []))),.none⟩]
def dfS1:C:=.reg [⟨(.some 7),(.mv (.c (.sl .true []))),.none⟩]
def R9:C:=.seq (.reg [⟨(.some 23),(.faddr 1 (.t 4)),.none⟩,⟨(.some 24),(.load .any .false 1 (.t 23)),.none⟩,⟨(.some 25),(.faddr 1 (.t 5)),.none⟩,⟨(.some 26),(.load .any .false 1 (.t 25)),.none⟩,⟨(.some 27),(.bin .neq .false (.t 24) (.t 26)),.none⟩]) (.cond (.t 27) (.reg [⟨(.some 28),(.mv (.t 7)),.none⟩,⟨(.some 29),(.mv (.t 0)),.none⟩,⟨(.some 30),(.faddr 1 (.t 5)),.none⟩,⟨(.some 31),(.load .any .false 1 (.t 30)),.none⟩,⟨(.some 32),(.build [(.int .i64 0),(.int .i64 0),(.int .i64 0),(.str (ByteArray.mk #[])),(.int .i64 0),(.str (ByteArray.mk #[])),(.int .i64 0),(.bool .false),(.bool .false),(.int .i64 0),(.bool .false),(.int .i64 0),(.str (ByteArray.mk #[])),(.int .i64 0),(.sl .true []),(.sl .true []),(.sl .true []),(.int .i64 0),(.str (ByteArray.mk #[])),(.int .i64 0),(.int .i64 0),(.int .i64 0),(.bool .false),(.int .i64 0),(.int .i64 0)] [(0,(1,(.c (.int .i64 6)))),(1,(1,(.t 29))),(3,(1,(.t 31)))]),.none⟩,⟨(.some 33),(.bsl [(.int .i64 0),(.int .i64 0),(.int .i64 0),(.str (ByteArray.mk #[])),(.int .i64 0),(.str (ByteArray.mk #[])),(.int .i64 0),(.bool .false),(.bool .false),(.int .i64 0),(.bool .false),(.int .i64 0),(.str (ByteArray.mk #[])),(.int .i64 0),(.sl .true []),(.sl .true []),(.sl .true []),(.int .i64 0),(.str (ByteArray.mk #[])),(.int .i64 0),(.int .i64 0),(.int .i64 0),(.bool .false),(.int .i64 0),(.int .i64 0)] 1 [(0,(.t 32))]),.none⟩,⟨(.some 34),(.appm .any 52 25 272 (.t 28) (.t 33)),.none⟩,⟨(.some 7),(.mv (.t 34)),.none⟩]) .skip)
def UX:C:=.seq (.reg [⟨(.some 35),(.faddr 2 (.t 4)),.none⟩,⟨(.some 36),(.load .any .false 1 (.t 35)),.none⟩,⟨(.some 37),(.faddr 2 (.t 5)),.none⟩,⟨(.some 38),(.load .any .false 1 (.t 37)),.none⟩,⟨(.some 39),(.bin .neq .false (.t 36) (.t 38)),.none⟩,⟨(.some 40),(.mv (.t 39)),.none⟩,⟨(.some 41),(.faddr 3 (.t 4)),(.some (40,.false))⟩,⟨(.some 42),(.load .any .false 1 (.t 41)),(.some (40,.false))⟩,⟨(.some 43),(.faddr 3 (.t 5)),(.some (40,.false))⟩,⟨(.some 44),(.load .any .false 1 (.t 43)),(.some (40,.false))⟩,⟨(.some 45),(.bin .neq .false (.t 42) (.t 44)),(.some (40,.false))⟩,⟨(.some 46),(.pick (.t 40) (.c (.bool .true)) (.t 45)),.none⟩,⟨(.some 47),(.mv (.t 46)),.none⟩,⟨(.some 48),(.faddr 4 (.t 4)),(.some (47,.false))⟩,⟨(.some 49),(.load .any .false 1 (.t 48)),(.some (47,.false))⟩,⟨(.some 50),(.faddr 4 (.t 5)),(.some (47,.false))⟩,⟨(.some 51),(.load .any .false 1 (.t 50)),(.some (47,.false))⟩,⟨(.some 52),(.bin .neq .false (.t 49) (.t 51)),(.some (47,.false))⟩,⟨(.some 53),(.pick (.t 47) (.c (.bool .true)) (.t 52)),.none⟩]) (.cond (.t 53) (.reg [⟨(.some 54),(.mv (.t 7)),.none⟩,⟨(.some 55),(.mv (.t 0)),.none⟩,⟨(.some 56),(.faddr 2 (.t 5)),.none⟩,⟨(.some 57),(.load .any .false 1 (.t 56)),.none⟩,⟨(.some 58),(.faddr 3 (.t 5)),.none⟩,⟨(.some 59),(.load .any .false 1 (.t 58)),.none⟩,⟨(.some 60),(.faddr 4 (.t 5)),.none⟩,⟨(.some 61),(.load .any .false 1 (.t 60)),.none⟩,⟨(.some 62),(.build [(.int .i64 0),(.int .i64 0),(.int .i64 0),(.str (ByteArray.mk #[])),(.int .i64 0),(.str (ByteArray.mk #[])),(.int .i64 0),(.bool .false),(.bool .false),(.int .i64 0),(.bool .false),(.int .i64 0),(.str (ByteArray.mk #[])),(.int .i64 0),(.sl .true []),(.sl .true []),(.sl .true []),(.int .i64 0),(.str (ByteArray.mk #[])),(.int .i64 0),(.int .i64 0),(.int .i64 0),(.bool .false),(.int .i64 0),(.int .i64 0)] [(0,(1,(.c (.int .i64 7)))),(1,(1,(.t 55))),(19,(1,(.t 57))),(20,(1,(.t 59))),(21,(1,(.t 61)))]),.none⟩,⟨(.some 63),(.bsl [(.int .i64 0),(.int .i64 0),(.int .i64 0),(.str (ByteArray.mk #[])),(.int .i64 0),(.str (ByteArray.mk #[])),(.int .i64 0),(.bool .false),(.bool .false),(.int .i64 0),(.bool .false),(.int .i64 0),(.str (ByteArray.mk #[])),(.int .i64 0),(.sl .true []),(.sl .true []),(.sl .true []),(.int .i64 0),(.str (ByteArray.mk #[])),(.int .i64 0),(.int .i64 0),(.int .i64 0),(.bool .false),(.int .i64 0),(.int .i64 0)] 1 [(0,(.t 62))]),.none⟩,⟨(.some 64),(.appm .any 52 25 272 (.t 54) (.t 63)),.none⟩,⟨(.some 7),(.mv (.t 64)),.none⟩]) .skip)
def T9:C:=.seq (.reg [⟨(.some 65),(.faddr 9 (.t 4)),.none⟩,⟨(.some 66),(.load .any .false 1 (.t 65)),.none⟩,⟨(.some 67),(.faddr 9 (.t 5)),.none⟩,⟨(.some 68),(.load .any .false 1 (.t 67)),.none⟩,⟨(.some 69),(.bin .neq .true (.t 66) (.t 68)),.none⟩]) (.cond (.t 69) (.reg [⟨(.some 70),(.mv (.t 7)),.none⟩,⟨(.some 71),(.mv (.t 0)),.none⟩,⟨(.some 72),(.faddr 9 (.t 5)),.none⟩,⟨(.some 73),(.load .any .false 1 (.t 72)),.none⟩,⟨(.some 74),(.build [(.int .i64 0),(.int .i64 0),(.int .i64 0),(.str (ByteArray.mk #[])),(.int .i64 0),(.str (ByteArray.mk #[])),(.int .i64 0),(.bool .false),(.bool .false),(.int .i64 0),(.bool .false),(.int .i64 0),(.str (ByteArray.mk #[])),(.int .i64 0),(.sl .true []),(.sl .true []),(.sl .true []),(.int .i64 0),(.str (ByteArray.mk #[])),(.int .i64 0),(.int .i64 0),(.int .i64 0),(.bool .false),(.int .i64 0),(.int .i64 0)] [(0,(1,(.c (.int .i64 8)))),(1,(1,(.t 71))),(22,(1,(.t 73)))]),.none⟩,⟨(.some 75),(.bsl [(.int .i64 0),(.int .i64 0),(.int .i64 0),(.str (ByteArray.mk #[])),(.int .i64 0),(.str (ByteArray.mk #[])),(.int .i64 0),(.bool .false),(.bool .false),(.int .i64 0),(.bool .false),(.int .i64 0),(.str (ByteArray.mk #[])),(.int .i64 0),(.sl .true []),(.sl .true []),(.sl .true []),(.int .i64 0),(.str (ByteArray.mk #[])),(.int .i64 0),(.int .i64 0),(.int .i64 0),(.bool .false),(.int .i64 0),(.int .i64 0)] 1 [(0,(.t 74))]),.none⟩,⟨(.some 76),(.appm .any 52 25 272 (.t 70) (.t 75)),.none⟩,⟨(.some 7),(.mv (.t 76)),.none⟩]) .skip)
def O0:C:=.seq (.reg [⟨(.some 77),(.faddr 7 (.t 4)),.none⟩,⟨(.some 78),(.load .any .false 1 (.t 77)),.none⟩,⟨(.some 79),(.faddr 7 (.t 5)),.none⟩,⟨(.some 80),(.load .any .false 1 (.t 79)),.none⟩,⟨(.some 81),(.bin .neq .false (.t 78) (.t 80)),.none⟩,⟨(.some 82),(.mv (.t 81)),.none⟩,⟨(.some 83),(.faddr 8 (.t 4)),(.some (82,.false))⟩,⟨(.some 84),(.load .any .false 1 (.t 83)),(.some (82,.false))⟩,⟨(.some 85),(.faddr 8 (.t 5)),(.some (82,.false))⟩,⟨(.some 86),(.load .any .false 1 (.t 85)),(.some (82,.false))⟩,⟨(.some 87),(.bin .neq .false (.t 84) (.t 86)),(.some (82,.false))⟩,⟨(.some 88),(.pick (.t 82) (.c (.bool .true)) (.t 87)),.none⟩]) (.cond (.t 88) (.reg [⟨(.some 89),(.mv (.t 7)),.none⟩,⟨(.some 90),(.mv (.t 0)),.none⟩,⟨(.some 91),(.faddr 7 (.t 5)),.none⟩,⟨(.some 92),(.load .any .false 1 (.t 91)),.none⟩,⟨(.some 93),(.faddr 8 (.t 5)),.none⟩,⟨(.some 94),(.load .any .false 1 (.t 93)),.none⟩,⟨(.some 95),(.build [(.int .i64 0),(.int .i64 0),(.int .i64 0),(.str (ByteArray.mk #[])),(.int .i64 0),(.str (ByteArray.mk #[])),(.int .i64 0),(.bool .false),(.bool .false),(.int .i64 0),(.bool .false),(.int .i64 0),(.str (ByteArray.mk #[])),(.int .i64 0),(.sl .true []),(.sl .true []),(.sl .true []),(.int .i64 0),(.str (ByteArray.mk #[])),(.int .i64 0),(.int .i64 0),(.int .i64 0),(.bool .false),(.int .i64 0),(.int .i64 0)] [(0,(1,(.c (.int .i64 9)))),(1,(1,(.t 90))),(23,(1,(.t 92))),(24,(1,(.t 94)))]),.none⟩,⟨(.some 96),(.bsl [(.int .i64 0),(.int .i64 0),(.int .i64 0),(.str (ByteArray.mk #[])),(.int .i64 0),(.str (ByteArray.mk #[])),(.int .i64 0),(.bool .false),(.bool .false),(.int .i64 0),(.bool .false),(.int .i64 0),(.str (ByteArray.mk #[])),(.int .i64 0),(.sl .true []),(.sl .true []),(.sl .true []),(.int .i64 0),(.str (ByteArray.mk #[])),(.int .i64 0),(.int .i64 0),(.int .i64 0),(.bool .false),(.int .i64 0),(.int .i64 0)] 1 [(0,(.t 95))]),.none⟩,⟨(.some 97),(.appm .any 52 25 272 (.t 89) (.t 96)),.none⟩,⟨(.some 7),(.mv (.t 97)),.none⟩]) .skip)
def dfS6:C:=.seq (.reg [⟨(.some 98),(.faddr 6 (.t 4)),.none⟩,⟨(.some 99),(.load .any .false 1 (.t 98)),.none⟩,⟨(.some 100),(.len .false (.t 99)),.none⟩,⟨(.some 101),(.mv (.c (.int .i64 0))),.none⟩]) (.block 0 (.loop gC))
def dfS7:C:=.seq (.reg [⟨(.some 118),(.faddr 6 (.t 5)),.none⟩,⟨(.some 119),(.load .any .false 1 (.t 118)),.none⟩,⟨(.some 120),(.len .false (.t 119)),.none⟩,⟨(.some 121),(.mv (.c (.int .i64 0))),.none⟩]) (.block 2 (.loop FB))
def dfS8:C:=.seq (.reg [⟨(.some 148),(.faddr 6 (.t 5)),.none⟩,⟨(.some 149),(.load .any .false 1 (.t 148)),.none⟩,⟨(.some 150),(.len .false (.t 149)),.none⟩,⟨(.some 151),(.mv (.c (.int .i64 0))),.none⟩]) (.block 4 (.loop fC))
def dfS9:C:=.seq (.reg [⟨(.some 167),(.faddr 5 (.t 4)),.none⟩,⟨(.some 168),(.load .any .false 1 (.t 167)),.none⟩,⟨(.some 169),(.len .false (.t 168)),.none⟩,⟨(.some 170),(.mv (.c (.int .i64 0))),.none⟩]) (.block 6 (.loop dC))
def m9:C:=.seq (.reg [⟨(.some 187),(.faddr 5 (.t 5)),.none⟩,⟨(.some 188),(.load .any .false 1 (.t 187)),.none⟩,⟨(.some 189),(.len .false (.t 188)),.none⟩,⟨(.some 190),(.mv (.c (.int .i64 0))),.none⟩]) (.block 8 (.loop DB))
def Q9:C:=.seq (.reg [⟨(.some 218),(.faddr 5 (.t 5)),.none⟩,⟨(.some 219),(.load .any .false 1 (.t 218)),.none⟩,⟨(.some 220),(.len .false (.t 219)),.none⟩,⟨(.some 221),(.mv (.c (.int .i64 0))),.none⟩]) (.block 10 (.loop sC))
def O5:C:=.seq (.reg [⟨(.some 237),(.mv (.t 7)),.none⟩,⟨(.some 238),(.len .false (.t 237)),.none⟩,⟨(.some 239),(.mv (.c (.int .i64 0))),.none⟩]) (.block 12 (.loop lD))
def W9:C:=.reg [⟨(.some 255),(.mv (.t 7)),.none⟩,⟨(.some 6),(.mv (.t 255)),.none⟩]
def E9:C:=.ret
theorem U9:RD.code=.seq dfS0 (.seq dfS1 (.seq R9 (.seq UX (.seq T9 (.seq O0 (.seq dfS6 (.seq dfS7 (.seq dfS8 (.seq dfS9 (.seq m9 (.seq Q9 (.seq O5 (.seq W9 E9))))))))))))):=rfl
section
variable {rv:RV} {n:Int} {x y:XA} {L:List DD} (hL:L.length<=500) (s:uA) (h:eI n x y L s) (k:Ex->uA->Option RV)
include rv n x y L hL s h k
theorem df_Name
  (hk:∀ s',eI n x y (L++if x.name=y.name then [] else [rR n y.name]) s'->k .nrm s'=some rv):R9.run (WF QD MC) (SO QD MC) s k=some rv:=by
 obtain ⟨env,mem,nx,obj,gh⟩:=s;obtain ⟨e0,e4,e5,m4,m5,e7,nxt,ea⟩:=h;dsimp only at e0 e4 e5 m4 m5 nxt;have M4:=m4;have M5:=m5;simp only [qA] at m4 m5;have ga:nA 272 (L.length + 1)=true:=by rw [rA]; omega
 have eb:=BB L;have nb:(L.map zI).length=L.length:=y9 _;by_cases hc:x.name=y.name
 ·rw [if_pos hc,yt] at hk;have c0:=hc;simp [R9,-J,-y6,-y5,y0,-EA,-gA,tA,iA,sA,eA,tA,iA,e0,e4,e5,m4,m5,c0];exact hk _ ⟨by simp [e0],by simp [e4],by simp [e5],M4,M5,e7.of (by simp) (by simp) (fun _ _ _ _=>rfl),by dsimp only; omega,ea⟩
 ·rw [if_neg hc] at hk;have c0:=hc;rcases e7 with ⟨rfl,e7⟩ | ⟨h0,d,N,d1,d2,d3,e7,d4⟩
  ·have ga:nA 272 1=true:=by rw [rA]; omega
   dsimp only at e7;simp [R9,-J,-y6,-y5,y0,-EA,-gA,tA,iA,sA,eA,tA,iA,e0,e4,e5,e7,m4,m5,c0,ga];refine hk _ ⟨by simp [e0],by simp [e4],by simp [e5],?_,?_,.inr ⟨by simp,34,nx + 1,by omega,by omega,?_,?_,?_⟩,?_,?_⟩
   ·simp [m4,qA]
   ·simp [m5,qA]
   ·simp
   ·simp
   ·simp; rfl
   ·dsimp only; omega
   ·first | (simp; done) | (simp; omega)
  ·dsimp only at d3 e7 d4;have n2:¬ 4=d:=by omega
   have n3:¬ 5=d:=by omega
   have n4:¬ d=0:=by omega
   have ig:=PE L;simp [R9,-J,-y6,-y5,y0,-EA,-gA,tA,iA,sA,eA,tA,iA,n4,e0,e4,e5,e7,d4,m4,m5,nb,ig,c0,ga,eb];refine hk _ ⟨by simp [e0],by simp [e4,n2],by simp [e5,n3],?_,?_,.inr ⟨by simp,34,nx + 1,by omega,by omega,?_,?_,?_⟩,?_,?_⟩
   ·simp [m4,qA,n2]
   ·simp [m5,qA,n3]
   ·simp
   ·simp
   ·simp; rfl
   ·dsimp only; omega
   ·first | (simp; done) | (simp; omega)
theorem df_Bnds
  (hk:∀ s',eI n x y (L++if x.low=y.low/\x.high=y.high/\x.max=y.max then [] else [eR n y.low y.high y.max]) s'->k .nrm s'=some rv):UX.run (WF QD MC) (SO QD MC) s k=some rv:=by
 obtain ⟨env,mem,nx,obj,gh⟩:=s;obtain ⟨e0,e4,e5,m4,m5,e7,nxt,ea⟩:=h;dsimp only at e0 e4 e5 m4 m5 nxt;have M4:=m4;have M5:=m5;simp only [qA] at m4 m5;have ga:nA 272 (L.length + 1)=true:=by rw [rA]; omega
 have eb:=BB L;have nb:(L.map zI).length=L.length:=y9 _;by_cases hc:x.low=y.low/\x.high=y.high/\x.max=y.max
 ·rw [if_pos hc,yt] at hk;obtain ⟨c0,c1,c2⟩:=hc;simp [UX,-J,-y6,-y5,y0,-EA,-gA,tA,iA,sA,eA,tA,iA,e0,e4,e5,m4,m5,c0,c1,c2];exact hk _ ⟨by simp [e0],by simp [e4],by simp [e5],M4,M5,e7.of (by simp) (by simp) (fun _ _ _ _=>rfl),by dsimp only; omega,ea⟩
 ·rw [if_neg hc] at hk;by_cases c0:x.low=y.low
  ·skip
   by_cases c1:x.high=y.high
   ·skip
    have c2:¬ x.max=y.max:=fun e=>hc ⟨c0,c1,e⟩
    rcases e7 with ⟨rfl,e7⟩ | ⟨h0,d,N,d1,d2,d3,e7,d4⟩
    ·have ga:nA 272 1=true:=by rw [rA]; omega
     dsimp only at e7;simp [UX,-J,-y6,-y5,y0,-EA,-gA,tA,iA,sA,eA,tA,iA,e0,e4,e5,e7,m4,m5,c0,c1,c2,ga];refine hk _ ⟨by simp [e0],by simp [e4],by simp [e5],?_,?_,.inr ⟨by simp,64,nx + 1,by omega,by omega,?_,?_,?_⟩,?_,?_⟩
     ·simp [m4,qA]
     ·simp [m5,qA]
     ·simp
     ·simp
     ·simp; rfl
     ·dsimp only; omega
     ·first | (simp; done) | (simp; omega)
    ·dsimp only at d3 e7 d4;have n2:¬ 4=d:=by omega
     have n3:¬ 5=d:=by omega
     have n4:¬ d=0:=by omega
     have ig:=PE L;simp [UX,-J,-y6,-y5,y0,-EA,-gA,tA,iA,sA,eA,tA,iA,n4,e0,e4,e5,e7,d4,m4,m5,nb,ig,c0,c1,c2,ga,eb];refine hk _ ⟨by simp [e0],by simp [e4,n2],by simp [e5,n3],?_,?_,.inr ⟨by simp,64,nx + 1,by omega,by omega,?_,?_,?_⟩,?_,?_⟩
     ·simp [m4,qA,n2]
     ·simp [m5,qA,n3]
     ·simp
     ·simp
     ·simp; rfl
     ·dsimp only; omega
     ·first | (simp; done) | (simp; omega)
   ·skip
    rcases e7 with ⟨rfl,e7⟩ | ⟨h0,d,N,d1,d2,d3,e7,d4⟩
    ·have ga:nA 272 1=true:=by rw [rA]; omega
     dsimp only at e7;simp [UX,-J,-y6,-y5,y0,-EA,-gA,tA,iA,sA,eA,tA,iA,e0,e4,e5,e7,m4,m5,c0,c1,ga];refine hk _ ⟨by simp [e0],by simp [e4],by simp [e5],?_,?_,.inr ⟨by simp,64,nx + 1,by omega,by omega,?_,?_,?_⟩,?_,?_⟩
     ·simp [m4,qA]
     ·simp [m5,qA]
     ·simp
     ·simp
     ·simp; rfl
     ·dsimp only; omega
     ·first | (simp; done) | (simp; omega)
    ·dsimp only at d3 e7 d4;have n2:¬ 4=d:=by omega
     have n3:¬ 5=d:=by omega
     have n4:¬ d=0:=by omega
     have ig:=PE L;simp [UX,-J,-y6,-y5,y0,-EA,-gA,tA,iA,sA,eA,tA,iA,n4,e0,e4,e5,e7,d4,m4,m5,nb,ig,c0,c1,ga,eb];refine hk _ ⟨by simp [e0],by simp [e4,n2],by simp [e5,n3],?_,?_,.inr ⟨by simp,64,nx + 1,by omega,by omega,?_,?_,?_⟩,?_,?_⟩
     ·simp [m4,qA,n2]
     ·simp [m5,qA,n3]
     ·simp
     ·simp
     ·simp; rfl
     ·dsimp only; omega
     ·first | (simp; done) | (simp; omega)
  ·skip
   rcases e7 with ⟨rfl,e7⟩ | ⟨h0,d,N,d1,d2,d3,e7,d4⟩
   ·have ga:nA 272 1=true:=by rw [rA]; omega
    dsimp only at e7;simp [UX,-J,-y6,-y5,y0,-EA,-gA,tA,iA,sA,eA,tA,iA,e0,e4,e5,e7,m4,m5,c0,ga];refine hk _ ⟨by simp [e0],by simp [e4],by simp [e5],?_,?_,.inr ⟨by simp,64,nx + 1,by omega,by omega,?_,?_,?_⟩,?_,?_⟩
    ·simp [m4,qA]
    ·simp [m5,qA]
    ·simp
    ·simp
    ·simp; rfl
    ·dsimp only; omega
    ·first | (simp; done) | (simp; omega)
   ·dsimp only at d3 e7 d4;have n2:¬ 4=d:=by omega
    have n3:¬ 5=d:=by omega
    have n4:¬ d=0:=by omega
    have ig:=PE L;simp [UX,-J,-y6,-y5,y0,-EA,-gA,tA,iA,sA,eA,tA,iA,n4,e0,e4,e5,e7,d4,m4,m5,nb,ig,c0,ga,eb];refine hk _ ⟨by simp [e0],by simp [e4,n2],by simp [e5,n3],?_,?_,.inr ⟨by simp,64,nx + 1,by omega,by omega,?_,?_,?_⟩,?_,?_⟩
    ·simp [m4,qA,n2]
    ·simp [m5,qA,n3]
    ·simp
    ·simp
    ·simp; rfl
    ·dsimp only; omega
    ·first | (simp; done) | (simp; omega)
theorem df_Open
  (hk:∀ s',eI n x y (L++if x.opn=y.opn then [] else [uR n y.opn]) s'->k .nrm s'=some rv):T9.run (WF QD MC) (SO QD MC) s k=some rv:=by
 obtain ⟨env,mem,nx,obj,gh⟩:=s;obtain ⟨e0,e4,e5,m4,m5,e7,nxt,ea⟩:=h;dsimp only at e0 e4 e5 m4 m5 nxt;have M4:=m4;have M5:=m5;simp only [qA] at m4 m5;have ga:nA 272 (L.length + 1)=true:=by rw [rA]; omega
 have eb:=BB L;have nb:(L.map zI).length=L.length:=y9 _;by_cases hc:x.opn=y.opn
 ·rw [if_pos hc,yt] at hk;have c0:=hc;simp [T9,-J,-y6,-y5,y0,-EA,-gA,tA,iA,sA,eA,tA,iA,e0,e4,e5,m4,m5,c0];exact hk _ ⟨by simp [e0],by simp [e4],by simp [e5],M4,M5,e7.of (by simp) (by simp) (fun _ _ _ _=>rfl),by dsimp only; omega,ea⟩
 ·rw [if_neg hc] at hk;cases hb:x.opn <;> cases mq:y.opn <;> rw [hb] at m4 hc <;> rw [mq] at m5 hc hk
  all_goals first | exact absurd rfl hc | skip
  all_goals
   rcases e7 with ⟨rfl,e7⟩ | ⟨h0,d,N,d1,d2,d3,e7,d4⟩
   ·have ga:nA 272 1=true:=by rw [rA]; omega
    dsimp only at e7;simp [T9,-J,-y6,-y5,y0,-EA,-gA,tA,iA,sA,eA,tA,iA,e0,e4,e5,e7,m4,m5,hc,ga];refine hk _ ⟨by simp [e0],by simp [e4],by simp [e5],?_,?_,.inr ⟨by simp,76,nx + 1,by omega,by omega,?_,?_,?_⟩,?_,?_⟩
    ·simp [m4,hb,qA]
    ·simp [m5,mq,qA]
    ·simp
    ·simp
    ·simp; rfl
    ·dsimp only; omega
    ·first | (simp; done) | (simp; omega)
   ·dsimp only at d3 e7 d4;have n2:¬ 4=d:=by omega
    have n3:¬ 5=d:=by omega
    have n4:¬ d=0:=by omega
    have ig:=PE L;simp [T9,-J,-y6,-y5,y0,-EA,-gA,tA,iA,sA,eA,tA,iA,n4,e0,e4,e5,e7,d4,m4,m5,nb,ig,hc,ga,eb];refine hk _ ⟨by simp [e0],by simp [e4,n2],by simp [e5,n3],?_,?_,.inr ⟨by simp,76,nx + 1,by omega,by omega,?_,?_,?_⟩,?_,?_⟩
    ·simp [m4,hb,qA,n2]
    ·simp [m5,mq,qA,n3]
    ·simp
    ·simp
    ·simp; rfl
    ·dsimp only; omega
    ·first | (simp; done) | (simp; omega)
theorem df_Uses
  (hk:∀ s',eI n x y (L++if x.key=y.key/\x.elem=y.elem then [] else [iR n y.key y.elem]) s'->k .nrm s'=some rv):O0.run (WF QD MC) (SO QD MC) s k=some rv:=by
 obtain ⟨env,mem,nx,obj,gh⟩:=s;obtain ⟨e0,e4,e5,m4,m5,e7,nxt,ea⟩:=h;dsimp only at e0 e4 e5 m4 m5 nxt;have M4:=m4;have M5:=m5;simp only [qA] at m4 m5;have ga:nA 272 (L.length + 1)=true:=by rw [rA]; omega
 have eb:=BB L;have nb:(L.map zI).length=L.length:=y9 _;by_cases hc:x.key=y.key/\x.elem=y.elem
 ·rw [if_pos hc,yt] at hk;obtain ⟨c0,c1⟩:=hc;simp [O0,-J,-y6,-y5,y0,-EA,-gA,tA,iA,sA,eA,tA,iA,e0,e4,e5,m4,m5,c0,c1];exact hk _ ⟨by simp [e0],by simp [e4],by simp [e5],M4,M5,e7.of (by simp) (by simp) (fun _ _ _ _=>rfl),by dsimp only; omega,ea⟩
 ·rw [if_neg hc] at hk;by_cases c0:x.key=y.key
  ·skip
   have c1:¬ x.elem=y.elem:=fun e=>hc ⟨c0,e⟩
   rcases e7 with ⟨rfl,e7⟩ | ⟨h0,d,N,d1,d2,d3,e7,d4⟩
   ·have ga:nA 272 1=true:=by rw [rA]; omega
    dsimp only at e7;simp [O0,-J,-y6,-y5,y0,-EA,-gA,tA,iA,sA,eA,tA,iA,e0,e4,e5,e7,m4,m5,c0,c1,ga];refine hk _ ⟨by simp [e0],by simp [e4],by simp [e5],?_,?_,.inr ⟨by simp,97,nx + 1,by omega,by omega,?_,?_,?_⟩,?_,?_⟩
    ·simp [m4,qA]
    ·simp [m5,qA]
    ·simp
    ·simp
    ·simp; rfl
    ·dsimp only; omega
    ·first | (simp; done) | (simp; omega)
   ·dsimp only at d3 e7 d4;have n2:¬ 4=d:=by omega
    have n3:¬ 5=d:=by omega
    have n4:¬ d=0:=by omega
    have ig:=PE L;simp [O0,-J,-y6,-y5,y0,-EA,-gA,tA,iA,sA,eA,tA,iA,n4,e0,e4,e5,e7,d4,m4,m5,nb,ig,c0,c1,ga,eb];refine hk _ ⟨by simp [e0],by simp [e4,n2],by simp [e5,n3],?_,?_,.inr ⟨by simp,97,nx + 1,by omega,by omega,?_,?_,?_⟩,?_,?_⟩
    ·simp [m4,qA,n2]
    ·simp [m5,qA,n3]
    ·simp
    ·simp
    ·simp; rfl
    ·dsimp only; omega
    ·first | (simp; done) | (simp; omega)
  ·skip
   rcases e7 with ⟨rfl,e7⟩ | ⟨h0,d,N,d1,d2,d3,e7,d4⟩
   ·have ga:nA 272 1=true:=by rw [rA]; omega
    dsimp only at e7;simp [O0,-J,-y6,-y5,y0,-EA,-gA,tA,iA,sA,eA,tA,iA,e0,e4,e5,e7,m4,m5,c0,ga];refine hk _ ⟨by simp [e0],by simp [e4],by simp [e5],?_,?_,.inr ⟨by simp,97,nx + 1,by omega,by omega,?_,?_,?_⟩,?_,?_⟩
    ·simp [m4,qA]
    ·simp [m5,qA]
    ·simp
    ·simp
    ·simp; rfl
    ·dsimp only; omega
    ·first | (simp; done) | (simp; omega)
   ·dsimp only at d3 e7 d4;have n2:¬ 4=d:=by omega
    have n3:¬ 5=d:=by omega
    have n4:¬ d=0:=by omega
    have ig:=PE L;simp [O0,-J,-y6,-y5,y0,-EA,-gA,tA,iA,sA,eA,tA,iA,n4,e0,e4,e5,e7,d4,m4,m5,nb,ig,c0,ga,eb];refine hk _ ⟨by simp [e0],by simp [e4,n2],by simp [e5,n3],?_,?_,.inr ⟨by simp,97,nx + 1,by omega,by omega,?_,?_,?_⟩,?_,?_⟩
    ·simp [m4,qA,n2]
    ·simp [m5,qA,n3]
    ·simp
    ·simp
    ·simp; rfl
    ·dsimp only; omega
    ·first | (simp; done) | (simp; omega)
end
section
variable {rv:RV} {n:Int} {x y:XA} (hx:x.mems.length<=100) (hy:y.mems.length<=100)
include rv n x y hx hy
theorem dfl_rem {L:List DD} (hL:L.length<=500) (s:uA) (h:eI n x y L s) (k:Ex->uA->Option RV)
  (hk:∀ s',eI n x y (L++mJ n y.mems x.mems) s'->k .nrm s'=some rv):dfS6.run (WF QD MC) (SO QD MC) s k=some rv:=by
 obtain ⟨env,mem,nx,obj,gh⟩:=s;obtain ⟨e0,e4,e5,m4,m5,e7,nxt,ea⟩:=h;dsimp only at e0 e4 e5 m4 m5 nxt;have M4:=m4;have M5:=m5;simp only [qA] at m4 m5;simp [dfS6,-J,-y6,-y5,y0,-EA,-gA,tA,iA,sA,eA,tA,iA,e4,e5,m4,m5];refine df_rem (n:=n) (x:=x) (y:=y) (L:=L) hx hy hL _ ⟨by simp [e0],by simp [e4],by simp [e5],M4,M5,by exact e7.of (by simp) (by simp) (fun _ _ _ _=>rfl),by dsimp only; omega,ea⟩ (by simp) (by simp) (by simp) _ (fun s' h'=>?_);simp [-J,-y6,-y5,y0];exact hk s' h'
theorem dfl_chg (sa:∀ m∈x.mems,m.ok) {L:List DD} (hL:L.length<=500) (s:uA) (h:eI n x y L s) (k:Ex->uA->Option RV)
  (hk:∀ s',eI n x y (L++zJ n x.mems y.mems) s'->k .nrm s'=some rv):dfS7.run (WF QD MC) (SO QD MC) s k=some rv:=by
 obtain ⟨env,mem,nx,obj,gh⟩:=s;obtain ⟨e0,e4,e5,m4,m5,e7,nxt,ea⟩:=h;dsimp only at e0 e4 e5 m4 m5 nxt;have M4:=m4;have M5:=m5;simp only [qA] at m4 m5;simp [dfS7,-J,-y6,-y5,y0,-EA,-gA,tA,iA,sA,eA,tA,iA,e4,e5,m4,m5];refine df_chg (n:=n) (x:=x) (y:=y) (L:=L) hx hy sa hL _ ⟨by simp [e0],by simp [e4],by simp [e5],M4,M5,by exact e7.of (by simp) (by simp) (fun _ _ _ _=>rfl),by dsimp only; omega,ea⟩ (by simp) (by simp) (by simp) _ (fun s' h'=>?_);simp [-J,-y6,-y5,y0];exact hk s' h'
theorem dfl_add {L:List DD} (hL:L.length<=500) (s:uA) (h:eI n x y L s) (k:Ex->uA->Option RV)
  (hk:∀ s',eI n x y (L++lJ n x.mems y.mems) s'->k .nrm s'=some rv):dfS8.run (WF QD MC) (SO QD MC) s k=some rv:=by
 obtain ⟨env,mem,nx,obj,gh⟩:=s;obtain ⟨e0,e4,e5,m4,m5,e7,nxt,ea⟩:=h;dsimp only at e0 e4 e5 m4 m5 nxt;have M4:=m4;have M5:=m5;simp only [qA] at m4 m5;simp [dfS8,-J,-y6,-y5,y0,-EA,-gA,tA,iA,sA,eA,tA,iA,e4,e5,m4,m5];refine df_add (n:=n) (x:=x) (y:=y) (L:=L) hx hy hL _ ⟨by simp [e0],by simp [e4],by simp [e5],M4,M5,by exact e7.of (by simp) (by simp) (fun _ _ _ _=>rfl),by dsimp only; omega,ea⟩ (by simp) (by simp) (by simp) _ (fun s' h'=>?_);simp [-J,-y6,-y5,y0];exact hk s' h'
end
section
variable {rv:RV} {n:Int} {x y:XA} (hx:x.syms.length<=100) (hy:y.syms.length<=100) {L:List DD} (hL:L.length<=500) (s:uA) (h:eI n x y L s) (k:Ex->uA->Option RV)
include rv n x y hx hy L hL s h k
theorem dfl_drp
  (hk:∀ s',eI n x y (L++xJ n y.syms x.syms) s'->k .nrm s'=some rv):dfS9.run (WF QD MC) (SO QD MC) s k=some rv:=by
 obtain ⟨env,mem,nx,obj,gh⟩:=s;obtain ⟨e0,e4,e5,m4,m5,e7,nxt,ea⟩:=h;dsimp only at e0 e4 e5 m4 m5 nxt;have M4:=m4;have M5:=m5;simp only [qA] at m4 m5;simp [dfS9,-J,-y6,-y5,y0,-EA,-gA,tA,iA,sA,eA,tA,iA,e4,e5,m4,m5];refine df_drp (n:=n) (x:=x) (y:=y) (L:=L) hx hy hL _ ⟨by simp [e0],by simp [e4],by simp [e5],M4,M5,by exact e7.of (by simp) (by simp) (fun _ _ _ _=>rfl),by dsimp only; omega,ea⟩ (by simp) (by simp) (by simp) _ (fun s' h'=>?_);simp [-J,-y6,-y5,y0];exact hk s' h'
theorem dfl_syn
  (hk:∀ s',eI n x y (L++WJ n x.syms y.syms) s'->k .nrm s'=some rv):m9.run (WF QD MC) (SO QD MC) s k=some rv:=by
 obtain ⟨env,mem,nx,obj,gh⟩:=s;obtain ⟨e0,e4,e5,m4,m5,e7,nxt,ea⟩:=h;dsimp only at e0 e4 e5 m4 m5 nxt;have M4:=m4;have M5:=m5;simp only [qA] at m4 m5;simp [m9,-J,-y6,-y5,y0,-EA,-gA,tA,iA,sA,eA,tA,iA,e4,e5,m4,m5];refine df_syn (n:=n) (x:=x) (y:=y) (L:=L) hx hy hL _ ⟨by simp [e0],by simp [e4],by simp [e5],M4,M5,by exact e7.of (by simp) (by simp) (fun _ _ _ _=>rfl),by dsimp only; omega,ea⟩ (by simp) (by simp) (by simp) _ (fun s' h'=>?_);simp [-J,-y6,-y5,y0];exact hk s' h'
theorem dfl_sya
  (hk:∀ s',eI n x y (L++QJ n x.syms y.syms) s'->k .nrm s'=some rv):Q9.run (WF QD MC) (SO QD MC) s k=some rv:=by
 obtain ⟨env,mem,nx,obj,gh⟩:=s;obtain ⟨e0,e4,e5,m4,m5,e7,nxt,ea⟩:=h;dsimp only at e0 e4 e5 m4 m5 nxt;have M4:=m4;have M5:=m5;simp only [qA] at m4 m5;simp [Q9,-J,-y6,-y5,y0,-EA,-gA,tA,iA,sA,eA,tA,iA,e4,e5,m4,m5];refine df_sya (n:=n) (x:=x) (y:=y) (L:=L) hx hy hL _ ⟨by simp [e0],by simp [e4],by simp [e5],M4,M5,by exact e7.of (by simp) (by simp) (fun _ _ _ _=>rfl),by dsimp only; omega,ea⟩ (by simp) (by simp) (by simp) _ (fun s' h'=>?_);simp [-J,-y6,-y5,y0];exact hk s' h'
end
section
variable {sz:Nat} {l:List (List AV)} (h:OA sz l=true) {k:Nat} {c:List AV} (hk:l[k]?=some c) {o z:Nat} (ho:o + z<=sz)
include sz l h k c hk o z ho
theorem TV:((HA l).drop (k * sz + o)).take z=((c.drop o).take z).map (⟨·,.no⟩)/\k * sz + o + z<=(HA l).length:=by
 have ia:=(yq.1 hk).1;have hc:=IN h hk;have hd:l.drop k=c :: l.drop (k + 1):=by rw [yk ia,(yq.1 hk).2]
 refine ⟨?_,?_⟩
 ·rw [<- List.drop_drop,IL h (by omega),hd,UL,List.drop_append_of_le_length (by simp; omega),List.take_append_of_le_length (by simp; omega),List.map_take,List.map_drop]
 ·rw [CK h];have:(k + 1) * sz<=l.length * sz:=yO _ ia;rw [Nat.add_mul] at this;omega
theorem TZ:EA true z (k * sz + o) (HA l)=some ⟨.agg ((c.drop o).take z),.no⟩:=by
 obtain ⟨h1,h2⟩:=TV h hk ho;simp only [EA,if_true];rw [if_pos h2,h1];simp [Function.comp_def]
theorem zY (a:An):gA true z (k * sz + o) (HA l) (.agg ((c.drop o).take z)) a=some (HA l):=by
 obtain ⟨h1,h2⟩:=TV h hk ho;have hc:=IN h hk;simp only [gA,if_true];rw [if_pos ⟨by rw [ym,yr]; omega,h2⟩,<- h1];congr 1;have e1:(HA l).drop (k * sz + o + z)=((HA l).drop (k * sz + o)).drop z:=by rw [List.drop_drop]
 rw [e1,yl,yR,yR]
end
theorem S9 (e:DD):((zI e).drop 9).take 8=eB e.mem.dflt:=by
 rw [dB];rfl
section
variable {rv:RV} {n:Int} {x y:XA} {D:List DD} (wl:∀ e∈D,e.mem.dflt.lay) (s:uA) (h:eI n x y D s)
include rv n x y D wl s h
theorem I9 (e_n:(s.env 238).v=.int .i64 D.length) (e_c:(s.env 239).v=.int .i64 0) (k:Ex->uA->Option RV)
  (hk:∀ s',eI n x y D s'->k (.exit 12) s'=some rv):CF QD MC lD s k=some rv:=by
 refine OF D.length (fun i s=>(s.env 238).v=.int .i64 D.length/\(s.env 239).v=.int .i64 i/\eI n x y D s) (fun e s=>e=.exit 12/\eI n x y D s) (fun i hi s k h ih hk=>?_) _ _ ⟨e_n,e_c,h⟩ (fun e s h=>by obtain ⟨rfl,h⟩:=h; exact hk _ h);obtain ⟨e_n,e_c,hI⟩:=h;obtain ⟨env,mem,nx,obj,gh⟩:=s;obtain ⟨e0,e4,e5,m4,m5,e7,nxt,ea⟩:=hI;dsimp only at e_n e_c e0 e4 e5 m4 m5 nxt;refine aA ?_;by_cases ia:i<D.length
 ·have da:(i:Int)<D.length:=by omega
  have hw:=mB (i:=i);obtain ⟨q,hq⟩:∃ q,D[i]?=some q:=⟨_,yg ia⟩;have g1:(D.map zI)[i]?=some (zI q):=by rw [yh,hq]; rfl
  rcases e7 with ⟨rfl,e7⟩ | ⟨h0,d,N,d1,d2,d3,e7,d4⟩
  ·simp at ia
  ·dsimp only at d3 e7 d4;have mh:=TZ (BB D) g1 (o:=9) (z:=8) (by omega);have rf:=zY (BB D) g1 (o:=9) (z:=8) (by omega) .no;rw [S9] at mh rf;have hc:=s9 _ q.mem.dflt (Nat.lt_succ_self _) (wl q (List.mem_of_getElem? hq));have rq:=iQ q.mem.dflt;have sf:=zS d4;simp only [zU] at hc;generalize oa:HA (D.map zI)=row at *
   simp [lD,-J,-y6,-y5,y0,-EA,-gA,tA,iA,sA,eA,e_n,e_c,e7,d4,ia,da,hw,mh,rq,hc,rf,sf];refine ih ia _ ⟨by simp [e_n],by simp,⟨by simp [e0],by simp [e4],by simp [e5],m4,m5,.inr ⟨h0,d,N,d1,d2,by dsimp only; omega,by simp [e7],by rw [oa]; exact d4⟩,by dsimp only; omega,ea⟩⟩
 ·have da:¬ (i:Int)<D.length:=by omega
  simp [lD,-J,-y6,-y5,y0,-EA,-gA,tA,iA,sA,eA,e_c,e_n,da];exact hk _ _ ⟨rfl,by simp [e0],by simp [e4],by simp [e5],m4,m5,by exact e7.of (by simp) (by simp) (fun _ _ _ _=>rfl),by dsimp only; omega,ea⟩
theorem dfl_fin (k:Ex->uA->Option RV)
  (hk:∀ s',eI n x y D s'->k .nrm s'=some rv):O5.run (WF QD MC) (SO QD MC) s k=some rv:=by
 obtain ⟨env,mem,nx,obj,gh⟩:=s;obtain ⟨e0,e4,e5,m4,m5,e7,nxt,ea⟩:=h;dsimp only at e0 e4 e5 m4 m5 nxt;have e7':=e7;have nb:(D.map zI).length=D.length:=y9 _;rcases e7 with ⟨rfl,e7⟩ | ⟨h0,d,N,d1,d2,d3,e7,d4⟩
 ·dsimp only at e7;simp [O5,-J,-y6,-y5,y0,-EA,-gA,tA,iA,sA,eA,e7];refine I9 (n:=n) (x:=x) (y:=y) (D:=[]) wl _ ⟨by simp [e0],by simp [e4],by simp [e5],m4,m5,by exact e7'.of (by simp [e7]) (by simp) (fun _ _ _ _=>rfl),by dsimp only; omega,ea⟩ (by simp) (by simp) _ (fun s' h'=>?_);simp [-J,-y6,-y5,y0];exact hk s' h'
 ·dsimp only at d3 e7 d4;simp [O5,-J,-y6,-y5,y0,-EA,-gA,tA,iA,sA,eA,e7];refine I9 (n:=n) (x:=x) (y:=y) (D:=D) wl _ ⟨by simp [e0],by simp [e4],by simp [e5],m4,m5,by exact e7'.of (by simp) (by simp) (fun _ _ _ _=>rfl),by dsimp only; omega,ea⟩ (by simp) (by simp) _ (fun s' h'=>?_);simp [-J,-y6,-y5,y0];exact hk s' h'
end
theorem O9 {n:Int} {x y:XA} (h:∀ m∈y.mems,m.dflt.lay):∀ e∈qQ n x y,e.mem.dflt.lay:=by
 have hz:Vl.zero.lay:=by simp [Vl.zero,Vl.lay,Vl.lays]
 intro e he;simp only [qQ,MS,yI] at he;rcases he with ((he | he | he | he) | he | he | he | he | he | he)
 ·split at he
  ·simp at he
  ·simp at he; subst he; exact hz
 ·split at he
  ·simp at he
  ·simp at he; subst he; exact hz
 ·split at he
  ·simp at he
  ·simp at he; subst he; exact hz
 ·split at he
  ·simp at he
  ·simp at he; subst he; exact hz
 ·simp only [mJ,List.mem_flatMap] at he;obtain ⟨m,_,he⟩:=he;split at he
  ·simp at he; subst he; exact hz
  ·simp at he
 ·simp only [zJ,List.mem_flatMap] at he;obtain ⟨m,hm,he⟩:=he;unfold WK at he;split at he
  ·split at he
   ·simp at he; subst he; exact h m hm
   ·simp at he
  ·simp at he
 ·simp only [lJ,List.mem_flatMap] at he;obtain ⟨m,hm,he⟩:=he;split at he
  ·simp at he; subst he; exact h m hm
  ·simp at he
 ·simp only [xJ,List.mem_flatMap] at he;obtain ⟨m,_,he⟩:=he;split at he
  ·simp at he; subst he; exact hz
  ·simp at he
 ·simp only [WJ,List.mem_flatMap] at he;obtain ⟨m,hm,he⟩:=he;unfold wL at he;split at he
  ·split at he
   ·simp at he; subst he; exact hz
   ·simp at he
  ·simp at he
 ·simp only [QJ,List.mem_flatMap] at he;obtain ⟨m,hm,he⟩:=he;split at he
  ·simp at he; subst he; exact hz
  ·simp at he
theorem L6 (n:Int) (x y:XA) (h1:x.mems.length<=40) (h2:y.mems.length<=40) (h3:x.syms.length<=40) (h4:y.syms.length<=40) (sa:∀ m∈x.mems,m.ok) (wl:∀ m∈y.mems,m.dflt.lay):zU 43 [.int .i64 n,.agg (qA x),.agg (qA y)] (EG (qQ n x y)):=by
 refine TK RD rfl rfl ?_;rw [U9];have l1:=MH (x.name=y.name) (rR n y.name);have l2:=MH (x.low=y.low/\x.high=y.high/\x.max=y.max) (eR n y.low y.high y.max);have l3:=MH (x.opn=y.opn) (uR n y.opn);have l4:=MH (x.key=y.key/\x.elem=y.elem) (iR n y.key y.elem);have l5:=nV n y.mems x.mems;have l6:=dU n x.mems y.mems;have l7:=rU n x.mems y.mems;have l8:=gU n y.syms x.syms;have l9:=GV n x.syms y.syms;have t1:(qA x).length=10:=rfl;have t2:(qA y).length=10:=rfl;simp only [nF];simp [dfS0,dfS1,-J,-y6,-y5,y0,t1,t2];refine df_Name (n:=n) (x:=x) (y:=y) (L:=[]) (by simp) _ ⟨by simp,by simp,by simp,by simp,by simp,.inl ⟨rfl,by simp⟩,by simp,by simp⟩ _ (fun s h=>?_);rw [List.nil_append] at h;rw [bC,nF];refine df_Bnds (by omega) s h _ (fun s h=>?_);rw [bC,nF];refine df_Open (by simp only [yb]; omega) s h _ (fun s h=>?_);rw [bC,nF];refine df_Uses (by simp only [yb]; omega) s h _ (fun s h=>?_);rw [bC,nF];refine dfl_rem (by omega) (by omega) (by simp only [yb]; omega) s h _ (fun s h=>?_);rw [bC,nF];refine dfl_chg (by omega) (by omega) sa (by simp only [yb]; omega) s h _ (fun s h=>?_);rw [bC,nF];refine dfl_add (by omega) (by omega) (by simp only [yb]; omega) s h _ (fun s h=>?_);rw [bC,nF];refine dfl_drp (by omega) (by omega) (by simp only [yb]; omega) s h _ (fun s h=>?_);rw [bC,nF];refine dfl_syn (by omega) (by omega) (by simp only [yb]; omega) s h _ (fun s h=>?_);rw [bC,nF];refine dfl_sya (by omega) (by omega) (by simp only [yb]; omega) s h _ (fun s h=>?_);rw [bC,nF];have hd:qQ n x y=MS n x y++(mJ n y.mems x.mems++(zJ n x.mems y.mems++(lJ n x.mems y.mems++(xJ n y.syms x.syms++(WJ n x.syms y.syms++QJ n x.syms y.syms))))):=rfl;rw [MS,yl,yl,yl] at hd;simp only [yl] at h;rw [<- hd] at h;have hly:=O9 (n:=n) (x:=x) wl;generalize qQ n x y=D at *
 refine dfl_fin hly s h _ (fun s h=>?_);have hr:RD.res=[.tmp 6]:=rfl;obtain ⟨env,mem,nx,obj,gh⟩:=s;rcases h.e7 with ⟨rfl,e7⟩ | ⟨h0,d,N,d1,d2,d3,e7,d4⟩
 ·dsimp only at e7;simp [W9,E9,-J,-y6,-y5,y0,-EA,-gA,tA,iA,sA,eA,e7,hr,EG]
 ·dsimp only at d3 e7 d4;have ig:=PE D;have he:D.isEmpty=false:=by cases D with | nil=>exact absurd rfl h0 | cons=>rfl
  simp [W9,E9,-J,-y6,-y5,y0,-EA,-gA,tA,iA,sA,eA,e7,d4,hr,ig,EG,he]
def fD:List XA->List XA->Bool
 | [],[]=>true
 | x :: l,y :: m=>decide (x.kind=y.kind)&&fD l m
 | [],_ :: _=>false
 | _ :: _,[]=>false
theorem qP:∀ l m:List XA,l.length≠m.length->fD l m=false
 | [],[],h=>absurd rfl h
 | x :: l,y :: m,h=>by rw [fD,qP l m (fun e=>h (by simp [e])),Bool.and_false]
 | [],_ :: _,_=>rfl
 | _ :: _,[],_=>rfl
theorem eqk_lp (F:Nat) (l m:List XA) (hl:l.length<=9223372036854775807) (he:l.length=m.length) (hF:∀ x∈l,∀ y∈m,wB F [.agg (qA x),.agg (qA y)] (.bool (decide (x.kind=y.kind)))) (b1 b2:Bool) (r:RV) (k:Ex->uA->Option RV) (hk:∀ s',fD l m=true->k (.exit 0) s'=some r) (hr:∀ s':uA,fD l m=false->(s'.env 6).v=.bool false->k .ret s'=some r) :
  ∀ (n i:Nat),i + n=l.length->fD (l.drop i) (m.drop i)=fD l m->∀ s':uA,(s'.env 1).v=.sl b2 (m.map qA)->(s'.env 2).v=.fn F []->(s'.env 15).v=.sl b1 (l.map qA)->(s'.env 16).v=.int .i64 l.length->(s'.env 17).v=.int .i64 i->CF lA zA sB s' k=some r:=by
 intro n
 induction n with
 | zero =>
  intro i hi hf s' e1 e2 wg kh zk;have ia:¬ ((i:Int)<l.length):=by omega
  refine aA ?_;simp [sB,-J,ZA,y0,kh,zk,ia];refine hk _ ?_;rw [<- hf,yj (by omega),yj (by omega),fD]
 | succ n ih =>
  intro i hi hf s' e1 e2 wg kh zk;have ia:(i:Int)<l.length:=by omega
  have lg:i<l.length:=by omega
  have ud:i<m.length:=by omega
  have hw:=mB (i:=i);have g1:(l.map qA)[i]?=some (qA l[i]):=by simp [lg]
  have g2:(m.map qA)[i]?=some (qA m[i]):=by simp [ud]
  have hx:=hF l[i] (yx _) m[i] (yx _);rw [yk lg,yk ud,fD] at hf;generalize l[i]=x at *
  generalize m[i]=y at *
  simp only [wB,qA] at g1 g2 hx;refine aA ?_;cases h1:decide (x.kind=y.kind) with
  | true =>
   rw [h1] at hx hf;simp [sB,-J,ZA,y0,e1,e2,wg,kh,zk,ia,g1,g2,SD,UC,hx,hw];refine ih (i + 1) (by omega) (by simpa using hf) _ ?_ ?_ ?_ ?_ ?_ <;> simp [*]
  | false =>
   rw [h1] at hx hf;simp [sB,-J,ZA,y0,e1,e2,wg,kh,zk,ia,g1,g2,SD,UC,hx];exact hr _ (by simpa using hf.symm) (by simp)
theorem eqk_ev (F:Nat) (l m:List XA) (hl:l.length<=9223372036854775807) (hF:∀ x∈l,∀ y∈m,wB F [.agg (qA x),.agg (qA y)] (.bool (decide (x.kind=y.kind)))) (b1 b2:Bool):wB 41 [.sl b1 (l.map qA),.sl b2 (m.map qA),.fn F []] (.bool (fD l m)):=by
 refine cA (c:=TB) rfl rfl ?_;by_cases he:l.length=m.length
 ·simp [TB,-J,ZA,y0,he];refine eqk_lp F l m hl he hF b1 b2 _ _ (fun s' hf=>?main) (fun s' hf h4=>?main2) l.length 0 (by simp) (by simp) _ ?_ ?_ ?_ ?_ ?_
  case main=>simp [-J,ZA,y0,hf]
  case main2=>simp [-J,ZA,y0,hf,h4]
  all_goals simp [he]
 ·have kf:¬ (l.length:Int)=m.length:=by omega
  simp [TB,-J,ZA,y0,kf,qP l m he]
theorem kind1_eq (x y:XA):wB 42 [.agg (qA x),.agg (qA y)] (.bool (decide (x.kind=y.kind))):=by
 refine cA (c:=dF) rfl rfl ?_;simp [dF,-J,-y6,-y5,y0,qA]
theorem fU (n:Int) (x y:XA) (h1:x.mems.length<=40) (h2:y.mems.length<=40) (h3:x.syms.length<=40) (h4:y.syms.length<=40):(qQ n x y).length<=244:=by
 have l1:=MH (x.name=y.name) (rR n y.name);have l2:=MH (x.low=y.low/\x.high=y.high/\x.max=y.max) (eR n y.low y.high y.max);have l3:=MH (x.opn=y.opn) (uR n y.opn);have l4:=MH (x.key=y.key/\x.elem=y.elem) (iR n y.key y.elem);have l5:=nV n y.mems x.mems;have l6:=dU n x.mems y.mems;have l7:=rU n x.mems y.mems;have l8:=gU n y.syms x.syms;have l9:=GV n x.syms y.syms;have l10:=syaL_len n x.syms y.syms;simp only [qQ,MS,yb];omega
def XJ:Nat->List XA->List XA->List DD
 | i,x :: l,y :: m=>qQ i x y++XJ (i + 1) l m
 | _,_,_=>[]
def OutB (L:List DD) (v:wA):Prop:=v.v=EG L/\(L=[]\/∃ k,v.a=.own k 52)
def dJ (t:XA):Prop:=t.mems.length<=40/\t.syms.length<=40/\(∀ m∈t.mems,m.ok)/\∀ m∈t.mems,m.dflt.lay
structure DgI (a b:ZV) (L:List DD) (s:uA):Prop where
 e2:(s.env 2).v=.ptr 2 1 0
 e3:(s.env 3).v=.ptr 3 1 0
 m2:s.mem 2 1=some [⟨.sl a.nl (a.types.map qA),.no⟩]
 m3:s.mem 3 1=some [⟨.sl b.nl (b.types.map qA),.no⟩]
 e9:OutB L (s.env 9)
theorem diff_lp {rv:RV} {a b:ZV} (ha:a.types.length<=100) (df:a.types.length=b.types.length) (zp:∀ t∈a.types,dJ t) (im:∀ t∈b.types,dJ t) (s:uA) (h:DgI a b [] s) (e_n:(s.env 33).v=.int .i64 a.types.length) (e_c:(s.env 34).v=.int .i64 0) (k:Ex->uA->Option RV)
  (hk:∀ s',DgI a b (XJ 0 a.types b.types) s'->k (.exit 2) s'=some rv):CF QD MC ZD s k=some rv:=by
 refine OF a.types.length (fun i s=>(s.env 33).v=.int .i64 a.types.length/\(s.env 34).v=.int .i64 i/\∃ L,DgI a b L s/\L.length<=244 * i/\L++XJ i (a.types.drop i) (b.types.drop i)=XJ 0 a.types b.types) (fun e s=>e=.exit 2/\DgI a b (XJ 0 a.types b.types) s) (fun i hi s k h ih hk=>?_) _ _ ⟨e_n,e_c,[],h,by simp,by simp⟩ (fun e s h=>by obtain ⟨rfl,h⟩:=h; exact hk _ h);obtain ⟨e_n,e_c,L,hI,hn,kg⟩:=h;obtain ⟨env,mem,nx,obj,gh⟩:=s;obtain ⟨e2,e3,m2,m3,e9,a9⟩:=hI;dsimp only at e_n e_c e2 e3 m2 m3 e9 a9;refine aA ?_;by_cases ia:i<a.types.length
 ·have da:(i:Int)<a.types.length:=by omega
  have hw:=mB (i:=i);have ud:i<b.types.length:=by omega
  have hx:=yx ia;have hy:=yx ud;have g1:(a.types.map qA)[i]?=some (qA a.types[i]):=by rw [yh,yg ia]; rfl
  have g2:(b.types.map qA)[i]?=some (qA b.types[i]):=by rw [yh,yg ud]; rfl
  rw [yk ia,yk ud,XJ] at kg;obtain ⟨x1,x2,x3,x4⟩:=zp _ hx;obtain ⟨y1,y2,y3,y4⟩:=im _ hy;have hd:=L6 i a.types[i] b.types[i] x1 y1 x2 y2 x3 y4;have re:=fU i a.types[i] b.types[i] x1 y1 x2 y2;generalize a.types[i]=x at *
  generalize b.types[i]=y at *
  simp only [zU,EG,qA] at hd;simp only [qA] at g1 g2;have gc:(a.types.map qA).length=a.types.length:=y9 _;have ri:(b.types.map qA).length=b.types.length:=y9 _;have htot':=kg;generalize qQ i x y=M at *
  have ga:nA 272 (L.length + M.length)=true:=by rw [rA]; omega
  have eb:=BB L;have xm:=BB M;have nb:(L.map zI).length=L.length:=y9 _;have wq:(M.map zI).length=M.length:=y9 _;have db:=ih ia;have bc:(M.map zI).isEmpty=M.isEmpty:=by cases M <;> rfl
  simp only [EG] at e9;generalize ku:a.types.map qA=ma at *
  generalize lu:b.types.map qA=mb at *
  by_cases h0:L=[]
  ·subst h0;have ga:nA 272 M.length=true:=by rw [rA]; omega
   simp [ZD,-J,-y6,-y5,y0,ZA,e_n,e_c,e2,e3,m2,m3,e9,da,hw,gc,ri,g1,g2,hd,ga,xm,wq,bc];refine db _ ⟨by simp [e_n],by simp,M,⟨by simp [e2],by simp [e3],by simp [m2,ku],by simp [m3,lu],by simp [EG],.inr ⟨50,by simp⟩⟩,by omega,kg⟩
  ·obtain ⟨kk,a9⟩:=a9.resolve_left h0;have he:L.isEmpty=false:=by cases L with | nil=>exact absurd rfl h0 | cons=>rfl
   rw [he] at e9;simp [ZD,-J,-y6,-y5,y0,ZA,e_n,e_c,e2,e3,m2,m3,e9,a9,da,hw,gc,ri,nb,g1,g2,hd,ga,eb,xm,wq,bc];refine db _ ⟨by simp [e_n],by simp,L++M,⟨by simp [e2],by simp [e3],by simp [m2,ku],by simp [m3,lu],by simp [EG,h0],.inr ⟨50,by simp⟩⟩,by rw [yb]; omega,by rw [yl]; exact kg⟩
 ·have da:¬ (i:Int)<a.types.length:=by omega
  rw [yj (by omega),XJ,yt] at kg
  ·subst kg;simp [ZD,-J,-y6,-y5,y0,e_c,e_n,da];exact hk _ _ ⟨rfl,by simp [e2],by simp [e3],m2,m3,by simpa using e9,by simpa using a9⟩
  ·intro x l y m h;cases h
def RK (a b:ZV):AV :=
 if tD a.types≠0 then .tup [.sl true [],.int .i64 (tD a.types)]
 else if tD b.types≠0 then .tup [.sl true [],.int .i64 (tD b.types)]
 else if fD a.types b.types=true then .tup [EG (XJ 0 a.types b.types),.int .i64 0] else .tup [.sl true [],.int .i64 1]
theorem tX:∀ l m:List XA,fD l m=true->l.length=m.length
 | [],[],_=>rfl
 | x :: l,y :: m,h=>by
  rw [fD,yc] at h;simp [tX l m h.2]
 | [],_ :: _,h=>by cases h
 | _ :: _,[],h=>by cases h
theorem dv_lp {rv:RV} {a b:ZV} (va:WF QD MC 34 [.agg (tG a)] none=some (.int .i64 (tD a.types),none)) (vb:WF QD MC 34 [.agg (tG b)] none=some (.int .i64 (tD b.types),none))
  (s:uA) (cj:(s.env 13).v=.sl false [[.sl a.nl (a.types.map qA)],[.sl b.nl (b.types.map qA)]]) (ll:(s.env 14).v=.int .i64 2) (wg:(s.env 15).v=.int .i64 0) (k:Ex->uA->Option RV)
  (h1:tD a.types≠0->∀ s':uA,(s'.env 4).v=.sl true []->(s'.env 5).v=.int .i64 (tD a.types)->k .ret s'=some rv)
  (h2:tD a.types=0->tD b.types≠0->∀ s':uA,(s'.env 4).v=.sl true []->(s'.env 5).v=.int .i64 (tD b.types)->k .ret s'=some rv)
  (h3:tD a.types=0->tD b.types=0->∀ s':uA,(s'.env 2).v=(s.env 2).v->(s'.env 3).v=(s.env 3).v->s'.mem 2 1=s.mem 2 1->s'.mem 3 1=s.mem 3 1->k (.exit 0) s'=some rv):CF QD MC CB s k=some rv:=by
 obtain ⟨env,mem,nx,obj,gh⟩:=s;dsimp only at cj ll wg h3;simp only [tG] at va vb;have ii:IntKind.i64.wrap 1=1:=by decide
 have su:IntKind.i64.wrap 2=2:=by decide
 refine aA ?_;by_cases c1:tD a.types=0
 ·have va':=va;rw [c1] at va';simp [CB,-J,-y6,-y5,y0,cj,ll,wg,va',ii];refine aA (b:=CB) ?_;by_cases c2:tD b.types=0
  ·have vb':=vb;rw [c2] at vb';simp [CB,-J,-y6,-y5,y0,cj,ll,vb',ii,su];refine aA (b:=CB) ?_;simp [CB,-J,-y6,-y5,y0,ll];exact h3 c1 c2 _ (by simp) (by simp) (by simp) (by simp)
  ·simp [CB,-J,-y6,-y5,y0,cj,ll,vb,ii,su,c2];exact h2 c1 c2 _ (by simp) (by simp)
 ·simp [CB,-J,-y6,-y5,y0,cj,ll,wg,va,c1];exact h1 c1 _ (by simp) (by simp)
theorem diff_ev (a b:ZV) (ha:a.fine) (hb:b.fine) (zp:tD a.types=0->a.types.length<=100/\∀ t∈a.types,dJ t) (im:tD b.types=0->∀ t∈b.types,dJ t):zU 17 [.agg (tG a),.agg (tG b)] (RK a b):=by
 have va:=FJ (CZ a ha);have vb:=FJ (CZ b hb);have hk:=FJ (eqk_ev 42 a.types b.types ha.1 (fun x _ y _=>kind1_eq x y) a.nl b.nl);simp only [zU] at hk;refine TK EF rfl rfl ?_;simp [EF,-J,-y6,-y5,y0,tG];refine dv_lp va vb _ (by simp) (by simp) (by simp) _ (fun c1 s' a1 a2=>?_) (fun c1 c2 s' a1 a2=>?_) (fun c1 c2 s' a1 a2 a3 a4=>?_)
 ·simp [-J,-y6,-y5,y0,a1,a2,RK,c1]
 ·simp [-J,-y6,-y5,y0,a1,a2,RK,c1,c2]
 ·obtain ⟨l1,l2⟩:=zp c1;have l3:=im c2;obtain ⟨env,mem,nx,obj,gh⟩:=s';simp at a1 a2 a3 a4;have gc:(a.types.map qA).length=a.types.length:=y9 _;by_cases c3:fD a.types b.types=true
  ·have df:=tX _ _ c3;have kj:=fun rv:RV=>@diff_lp rv a b l1 df l2 l3
   rw [c3] at hk;simp [-J,-y6,-y5,y0,a1,a2,a3,a4,hk,gc];refine kj _ _ ⟨by simp [a1],by simp [a2],by simp [a3],by simp [a4],by simp [EG],.inl rfl⟩ (by simp) (by simp) _ (fun s' h'=>?_);have e9:=h'.e9.1;simp [-J,-y6,-y5,y0,e9,RK,c1,c2,c3,EG]
  ·rw [Bool.eq_false_iff.2 c3] at hk;simp [-J,-y6,-y5,y0,a1,a2,a3,a4,hk,gc,RK,c1,c2,c3]
structure DhI (a b:ZV) (L:List DD) (s:uA):Prop where
 e2:(s.env 2).v=.ptr 2 1 0
 e3:(s.env 3).v=.ptr 3 1 0
 m2:s.mem 2 1=some [⟨.sl a.nl (a.types.map qA),.no⟩]
 m3:s.mem 3 1=some [⟨.sl b.nl (b.types.map qA),.no⟩]
 e8:OutB L (s.env 8)
theorem rdiff_lp {rv:RV} {a b:ZV} (ha:a.types.length<=100) (df:a.types.length=b.types.length) (zp:∀ t∈a.types,dJ t) (im:∀ t∈b.types,dJ t) (s:uA) (h:DhI a b [] s) (e_c:(s.env 9).v=.int .i64 0) (k:Ex->uA->Option RV)
  (hk:fD a.types b.types=true->∀ s',DhI a b (XJ 0 a.types b.types) s'->k (.exit 0) s'=some rv)
  (hr:fD a.types b.types=false->∀ s':uA,(s'.env 4).v=.sl true []->(s'.env 5).v=.int .i64 1->k .ret s'=some rv):CF lA zA TD s k=some rv:=by
 refine cB a.types.length (fun i s=>(s.env 9).v=.int .i64 i/\fD (a.types.drop i) (b.types.drop i)=fD a.types b.types/\∃ L,DhI a b L s/\L.length<=244 * i/\L++XJ i (a.types.drop i) (b.types.drop i)=XJ 0 a.types b.types) (fun e s=>(e=.exit 0/\fD a.types b.types=true/\DhI a b (XJ 0 a.types b.types) s)\/(e=.ret/\fD a.types b.types=false/\(s.env 4).v=.sl true []/\(s.env 5).v=.int .i64 1)) (fun i hi s k h ih hk=>?_) _ _ ⟨e_c,rfl,[],h,by simp,by simp⟩ (fun e s h=>by
   rcases h with ⟨rfl,h1,h2⟩ | ⟨rfl,h1,h2,h3⟩
   ·exact hk h1 _ h2
   ·exact hr h1 _ h2 h3)
 obtain ⟨e_c,bw,L,hI,hn,kg⟩:=h;obtain ⟨env,mem,nx,obj,gh⟩:=s;obtain ⟨e2,e3,m2,m3,e8,a8⟩:=hI;dsimp only at e_c e2 e3 m2 m3 e8 a8;refine aA ?_;have gc:(a.types.map qA).length=a.types.length:=y9 _;have ri:(b.types.map qA).length=b.types.length:=y9 _;by_cases ia:i<a.types.length
 ·have da:(i:Int)<a.types.length:=by omega
  have hw:=mB (i:=i);have ud:i<b.types.length:=by omega
  have hx:=yx ia;have hy:=yx ud;have g1:(a.types.map qA)[i]?=some (qA a.types[i]):=by rw [yh,yg ia]; rfl
  have g2:(b.types.map qA)[i]?=some (qA b.types[i]):=by rw [yh,yg ud]; rfl
  rw [yk ia,yk ud,XJ] at kg;rw [yk ia,yk ud,fD] at bw;obtain ⟨x1,x2,x3,x4⟩:=zp _ hx;obtain ⟨y1,y2,y3,y4⟩:=im _ hy;have hd:=m0 i a.types[i] b.types[i] x1 y1 x2 y2 x3;have re:=fU i a.types[i] b.types[i] x1 y1 x2 y2;generalize a.types[i]=x at *
  generalize b.types[i]=y at *
  simp only [wB,EG,qA] at hd;simp only [qA] at g1 g2;generalize qQ i x y=M at *
  have ga:nA 272 (L.length + M.length)=true:=by rw [rA]; omega
  have eb:=BB L;have xm:=BB M;have nb:(L.map zI).length=L.length:=y9 _;have wq:(M.map zI).length=M.length:=y9 _;have db:=ih ia;have bc:(M.map zI).isEmpty=M.isEmpty:=by cases M <;> rfl
  simp only [EG] at e8;generalize ku:a.types.map qA=ma at *
  generalize lu:b.types.map qA=mb at *
  by_cases ck:x.kind=y.kind
  ·have cw:fD (a.types.drop (i + 1)) (b.types.drop (i + 1))=fD a.types b.types:=by simpa [ck] using bw
   rw [ck] at hd g1;by_cases h0:L=[]
   ·subst h0;have ga:nA 272 M.length=true:=by rw [rA]; omega
    simp [TD,-J,-y6,-y5,y0,ZA,e_c,e2,e3,m2,m3,e8,da,hw,gc,ri,g1,g2,hd,ga,xm,wq,bc];refine db _ ⟨by simp,cw,M,⟨by simp [e2],by simp [e3],by simp [m2,ku],by simp [m3,lu],by simp [EG],.inr ⟨60,by simp⟩⟩,by omega,kg⟩
   ·obtain ⟨kk,a8⟩:=a8.resolve_left h0;have he:L.isEmpty=false:=by cases L with | nil=>exact absurd rfl h0 | cons=>rfl
    rw [he] at e8;simp [TD,-J,-y6,-y5,y0,ZA,e_c,e2,e3,m2,m3,e8,a8,da,hw,gc,ri,nb,g1,g2,hd,ga,eb,xm,wq,bc];refine db _ ⟨by simp,cw,L++M,⟨by simp [e2],by simp [e3],by simp [m2,ku],by simp [m3,lu],by simp [EG,h0],.inr ⟨60,by simp⟩⟩,by rw [yb]; omega,by rw [yl]; exact kg⟩
  ·simp [TD,-J,-y6,-y5,y0,ck,e_c,e2,e3,m2,m3,da,hw,gc,ri,g1,g2];exact hk _ _ (.inr ⟨rfl,by rw [<- bw]; simp [ck],by simp,by simp⟩)
 ·have da:¬ (i:Int)<a.types.length:=by omega
  rw [yj (by omega),yj (by omega)] at kg bw;rw [XJ,yt] at kg
  ·subst kg;simp [TD,-J,-y6,-y5,y0,e_c,e2,m2,gc,da];exact hk _ _ (.inl ⟨rfl,bw.symm,by simp [e2],by simp [e3],m2,m3,by simpa using e8,by simpa using a8⟩)
  ·intro x l y m h;cases h
theorem rdiff_ev (a b:ZV) (ha:a.fine) (hb:b.fine) (zp:tD a.types=0->a.types.length<=100/\∀ t∈a.types,dJ t) (im:tD b.types=0->∀ t∈b.types,dJ t):wB 18 [.agg (tG a),.agg (tG b)] (RK a b):=by
 have va:=gX a ha;have vb:=gX b hb;simp only [wB,tG] at va vb;refine cA (c:=pE) rfl rfl ?_;have gc:(a.types.map qA).length=a.types.length:=y9 _;have ri:(b.types.map qA).length=b.types.length:=y9 _;by_cases c1:tD a.types=0
 ·by_cases c2:tD b.types=0
  ·obtain ⟨l1,l2⟩:=zp c1;have l3:=im c2;rw [c1] at va;rw [c2] at vb;by_cases c4:a.types.length=b.types.length
   ·have kj:=fun rv:RV=>@rdiff_lp rv a b l1 c4 l2 l3
    simp [pE,-J,-y6,-y5,y0,tG,va,vb,gc,ri,c4];refine kj _ _ ⟨by simp,by simp,by simp,by simp,by simp [EG],.inl rfl⟩ (by simp) _ (fun c3 s' h'=>?_) (fun c3 s' a1 a2=>?_)
    ·have e8:=h'.e8.1;simp [-J,-y6,-y5,y0,e8,RK,c1,c2,c3,EG]
    ·simp [-J,-y6,-y5,y0,a1,a2,RK,c1,c2,c3]
   ·have c4':¬ (a.types.length:Int)=b.types.length:=by omega
    simp [pE,-J,-y6,-y5,y0,tG,va,vb,gc,ri,c4',RK,c1,c2,qP _ _ c4]
  ·rw [c1] at va;simp [pE,-J,-y6,-y5,y0,tG,va,vb,c2,RK,c1]
 ·simp [pE,-J,-y6,-y5,y0,tG,va,c1,RK]
theorem same_lp {rv:RV} {D:List DD} {bn:Bool} (hl:D.length<=100000) (sa:∀ e∈D,e.mem.ok) (s:uA) (e0:(s.env 0).v=.sl bn (D.map zI)) (e1:(s.env 1).v=.sl bn (D.map zI)) (e5:(s.env 5).v=.int .i64 0) (k:Ex->uA->Option RV)
  (hk:∀ s',k (.exit 0) s'=some rv):CF lA zA XF s k=some rv:=by
 refine cB D.length (fun i s=>(s.env 0).v=.sl bn (D.map zI)/\(s.env 1).v=.sl bn (D.map zI)/\(s.env 5).v=.int .i64 i) (fun e s=>e=.exit 0) (fun i hi s k h ih hk=>?_) _ _ ⟨e0,e1,e5⟩ (fun e s h=>by subst h; exact hk _);obtain ⟨e0,e1,e5⟩:=h;have gc:(D.map zI).length=D.length:=y9 _;refine aA ?_;by_cases ia:i<D.length
 ·have da:(i:Int)<D.length:=by omega
  have hw:=mB (i:=i);have hx:=yx ia;have g1:(D.map zI)[i]?=some (zI D[i]):=by rw [yh,yg ia]; rfl
  have hs:=WZ D[i].mem D[i].mem (sa _ hx);rw [EE.same_refl] at hs;have db:=ih ia;generalize D[i]=x at *
  generalize ku:D.map zI=ma at *
  simp only [wB,WA] at hs;simp only [zI,WA,FA,List.cons_append,List.nil_append] at g1;simp [XF,-J,-y6,-y5,y0,e0,e1,e5,da,hw,gc,g1,hs];refine db _ ⟨?_,?_,?_⟩
  all_goals simp [e0,e1]
 ·have da:¬ (i:Int)<D.length:=by omega
  simp [XF,-J,-y6,-y5,y0,e0,e5,da,gc];exact hk _ _ rfl
theorem K7 (D:List DD) (hl:D.length<=100000) (sa:∀ e∈D,e.mem.ok):wB 19 [EG D,EG D] (.bool true):=by
 refine cA (c:=jI) rfl rfl ?_;have gc:(D.map zI).length=D.length:=y9 _;simp only [EG];simp [jI,-J,-y6,-y5,y0,gc];refine same_lp (bn:=D.isEmpty) hl sa _ (by simp) (by simp) (by simp) _ (fun s'=>?_);simp [-J,-y6,-y5,y0]
theorem u7 {t:XA} (h:OD t=true):t.syms.length<=16:=by
 unfold OD at h;simp only [yc,decide_eq_true_eq] at h;obtain ⟨_,h2,h3⟩:=h;by_cases c4:t.kind=4
 ·simp [kX,c4,zP] at h2;omega
 ·have:t.left.syms=t.syms:=by
   unfold XA.left
   repeat' split
   all_goals first | rfl | exact absurd (by assumption) c4
  have hz:t.left.syms=HC.syms:=by
   simp only [XA.same,yc,decide_eq_true_eq] at h3;exact h3.1.2
  rw [<- this,hz];simp [HC]
theorem E2:∀ (l m:List XA) (i:Nat),(∀ t∈m,dJ t)->(∀ e∈XJ i l m,e.mem.ok)/\(m.length<=100->(∀ t∈l,dJ t)->(XJ i l m).length<=244 * m.length)
 | [],m,i,_=>by simp [XJ]
 | x :: l,[],i,_=>by simp [XJ]
 | x :: l,y :: m,i,h=>by
  obtain ⟨h1,h2⟩:=E2 l m (i + 1) (fun t ht=>h t (yE _ ht));obtain ⟨y1,y2,y3,y4⟩:=h y (yv ..);refine ⟨fun e he=>?_,fun hm hl=>?_⟩
  ·rw [XJ,yI] at he;rcases he with he | he
   ·have hz:EE.zero.ok:=by simp [EE.ok,EE.zero,Vl.zero,Vl.ok,Vl.oks]; decide
    simp only [qQ,MS,yI] at he;rcases he with ((he | he | he | he) | he | he | he | he | he | he)
    ·split at he <;> simp at he; subst he; exact hz
    ·split at he <;> simp at he; subst he; exact hz
    ·split at he <;> simp at he; subst he; exact hz
    ·split at he <;> simp at he; subst he; exact hz
    ·simp only [mJ,List.mem_flatMap] at he;obtain ⟨m,_,he⟩:=he;split at he <;> simp at he; subst he; exact hz
    ·simp only [zJ,List.mem_flatMap] at he;obtain ⟨m,hm,he⟩:=he;unfold WK at he;split at he
     ·split at he <;> simp at he; subst he; exact y3 m hm
     ·simp at he
    ·simp only [lJ,List.mem_flatMap] at he;obtain ⟨m,hm,he⟩:=he;split at he <;> simp at he; subst he; exact y3 m hm
    ·simp only [xJ,List.mem_flatMap] at he;obtain ⟨m,_,he⟩:=he;split at he <;> simp at he; subst he; exact hz
    ·simp only [WJ,List.mem_flatMap] at he;obtain ⟨m,hm,he⟩:=he;unfold wL at he;split at he
     ·split at he <;> simp at he; subst he; exact hz
     ·simp at he
    ·simp only [QJ,List.mem_flatMap] at he;obtain ⟨m,hm,he⟩:=he;split at he <;> simp at he; subst he; exact hz
   ·exact h1 e he
  ·rw [XJ,yb];obtain ⟨x1,x2,_,_⟩:=hl x (yv ..);have:=fU i x y x1 y1 x2 y2;have:=h2 (by simp at hm; omega) (fun t ht=>hl t (yE _ ht));simp only [yD];omega
theorem MK {s:ZV} (hs:s.fine) (hv:tD s.types=0) (hl:∀ t∈s.types,∀ m∈t.mems,m.dflt.lay):∀ t∈s.types,dJ t:=fun t ht=>by
 obtain ⟨j,hj,rfl⟩:=List.mem_iff_getElem.1 ht;have hg:=(L9 (i8 hv j hj)).1;have h1:=good_few hg;have h2:=u7 hg;exact ⟨by omega,by omega,(hs.2 _ ht).1.2.2,hl _ ht⟩
theorem CV (a b:ZV) (ha:a.fine) (hb:b.fine) (hla:q7 a=true->∀ t∈a.types,∀ m∈t.mems,m.dflt.lay) (hlb:q7 b=true->∀ t∈b.types,∀ m∈t.mems,m.dflt.lay):zU 4 [.agg (tG a),.agg (tG b)] (.bool true):=by
 have haw:=ev_V k0;have iu:=FJ (few_ev a ⟨ha.1,fun t ht=>(ha.2 t ht).1⟩);have xv:=FJ (few_ev b ⟨hb.1,fun t ht=>(hb.2 t ht).1⟩);simp only [zU,tG] at iu xv;refine TK jC rfl rfl ?_;by_cases fa:q7 a=true
 case neg=>simp [jC,-J,-y6,-y5,y0,tG,haw,iu,fa]
 by_cases fb:q7 b=true
 case neg=>simp [jC,-J,-y6,-y5,y0,tG,haw,iu,xv,fa,fb]
 have d1:=diff_ev a b ha hb (fun h=>⟨by have:=xS h; omega,MK ha h (hla fa)⟩) (fun h=>MK hb h (hlb fb));have d2:=FJ (rdiff_ev a b ha hb (fun h=>⟨by have:=xS h; omega,MK ha h (hla fa)⟩) (fun h=>MK hb h (hlb fb)));obtain ⟨D,e,hd,hD,sa⟩:∃ (D:List DD) (e:Int),RK a b=.tup [EG D,.int .i64 e]/\D.length<=100000/\∀ x∈D,x.mem.ok:=by
  unfold RK;by_cases c1:tD a.types=0
  ·by_cases c2:tD b.types=0
   ·by_cases c3:fD a.types b.types=true
    ·have im:=MK hb c2 (hlb fb);obtain ⟨q1,q2⟩:=E2 a.types b.types 0 im;have hl:=xS c2;exact ⟨XJ 0 a.types b.types,0,by simp [c1,c2,c3],by have:=q2 (by omega) (MK ha c1 (hla fa)); omega,q1⟩
    ·exact ⟨[],1,by simp [c1,c2,c3,EG],by simp,by simp⟩
   ·exact ⟨[],tD b.types,by simp [c1,c2,EG],by simp,by simp⟩
  ·exact ⟨[],tD a.types,by simp [c1,EG],by simp,by simp⟩
 have hs:=FJ (K7 D hD sa);rw [hd] at d1 d2;simp only [zU,tG,EG] at d1 d2 hs;simp [jC,-J,-y6,-y5,y0,tG,haw,iu,xv,fa,fb,d1,d2,hs]
section
open Go Go.RowKit Go.ChangeShapes Go.WideShapes
theorem ZQ {H:Type} {P:Program} {m:Nat}:∀ {ts us:List TypeId} {ds gs:List (DataW H)},m∈DataW.weightsEach P ts ds->ts.length=ds.length->m∈DataW.weightsEach P (ts++us) (ds++gs)
 | [],_,[],_,h,_=>by simp [DataW.weightsEach] at h
 | [],_,_ :: _,_,_,h=>by simp at h
 | _ :: _,_,[],_,_,h=>by simp at h
 | t :: ts,us,d :: ds,gs,h,hl=>by
  simp only [DataW.weightsEach,yI,List.cons_append] at h ⊢;rcases h with h | h
  ·exact .inl h
  ·exact .inr (ZQ h (by simpa using hl))
theorem WR {α:Type} {P:List AV->Prop} {f:α->List AV} {p:α->Prop} (h:∀ x,P x->∃ o,x=f o/\p o):∀ els:List (List AV),(∀ x∈els,P x)->∃ L:List α,els=L.map f/\∀ o∈L,p o
 | [],_=>⟨[],rfl,fun _ h=>by cases h⟩
 | x :: r,hx=>by
  obtain ⟨L,h1,h2⟩:=WR h r fun y hy=>hx y (yE _ hy)
  obtain ⟨o,h3,h4⟩:=h x (hx x yv);refine ⟨o :: L,by rw [h1,h3]; rfl,fun y hy=>?_⟩;rcases yA.1 hy with rfl | hy
  ·exact h4
  ·exact h2 y hy
theorem reachB:reachBytes=140737488351232:=rfl
def schTs:List TypeId:=[24,22,68,65,50,66,48,46,43,44,102,3,2,4,9]
theorem G1:schTs.all (uN Tryz.prog schTs)=true:=by kernel_rfl
theorem u9:Tryz.prog.bytesOf 50=24:=by kernel_rfl
theorem w9:16<=Tryz.prog.bytesOf 48:=of_decide_eq_true (by kernel_rfl)
theorem i64_of {n:Int} (h:(Lit.int .i64 n).wf=true):i64R n:=by
 simp only [Lit.wf,yc,decide_eq_true_eq] at h;have h1:IntKind.i64.min=-9223372036854775808:=rfl;have h2:IntKind.i64.max=9223372036854775807:=rfl;exact ⟨by omega,by omega⟩
section
variable {n:Nat} {a:List AV}
include n a
theorem ZO (h:JG Tryz.prog n 3 a):∃ x,a=[.int .i64 x]/\i64R x:=by
 cases n with
 | zero=>exact h.elim
 | succ n =>
  simp only [JG,Tryz.underlying3] at h;obtain ⟨x,rfl,hx⟩:=h;exact ⟨x,rfl,i64_of hx⟩
theorem WY (h:JG Tryz.prog n 2 a):∃ x,a=[.int .i64 x]/\i64R x:=by
 cases n with
 | zero=>exact h.elim
 | succ n =>
  simp only [JG,Tryz.underlying2] at h;obtain ⟨x,rfl,hx⟩:=h;exact ⟨x,rfl,i64_of hx⟩
theorem W6 (h:JG Tryz.prog n 4 a):∃ x,a=[.bool x]:=by
 cases n with
 | zero=>exact h.elim
 | succ n =>
  simp only [JG,Tryz.underlying4] at h;exact h
theorem LZ (h:JG Tryz.prog n 9 a):∃ x,a=[.str x]/\x.size<=9223372036854775807:=by
 cases n with
 | zero=>exact h.elim
 | succ n =>
  simp only [JG,Tryz.underlying9] at h;exact h
theorem tyRaw (h:JG Tryz.prog n 102 a):∃ r:p8,a=zG r/\True:=by
 cases n with
 | zero=>exact h.elim
 | succ n =>
  simp only [JG,Tryz.underlying102,tL] at h;obtain ⟨_,_,rfl,_,h1,_,_,rfl,_,h2,rfl⟩:=h;obtain ⟨x1,rfl,_⟩:=ZO h1;obtain ⟨x2,rfl,_⟩:=LZ h2;exact ⟨⟨x1,x2⟩,rfl,trivial⟩
end
theorem r9:Tryz.prog.bytesOf 102=24:=by kernel_rfl
theorem i9:Tryz.prog.bytesOf 46=120:=by kernel_rfl
theorem tyRaws {n:Nat} {a:List AV} (h:JG Tryz.prog n 44 a):∃ nl,∃ l:List p8,a=[AV.sl nl (l.map zG)]/\l.length * 24<=reachBytes/\(nl=true->l=[]):=by
 cases n with
 | zero=>exact h.elim
 | succ n =>
  simp only [JG,Tryz.underlying44,r9] at h;obtain ⟨nl,els,rfl,_,h2,h3,h4⟩:=h;obtain ⟨L,rfl,_⟩:=WR (P:=fun x=>JG Tryz.prog n 102 x) (fun x hx=>tyRaw hx) els (fun x hx=>(h4 x hx).2);exact ⟨nl,L,rfl,by simpa using h2,fun e=>by simpa using h3 e⟩
theorem tyVal:∀ (n:Nat) {a:List AV},JG Tryz.prog n 46 a->∃ v:Vl,a=eB v/\v.ok/\v.lay
 | 0,_,h=>h.elim
 | n + 1,a,h=>by
  simp only [JG,Tryz.underlying46,tL] at h;obtain ⟨_,_,rfl,_,h1,_,_,rfl,_,h2,_,_,rfl,_,h3,_,_,rfl,_,h4,_,_,rfl,_,h5,_,_,rfl,_,h6,_,_,rfl,_,h7,_,_,rfl,_,h8,rfl⟩:=h;obtain ⟨x1,rfl,_⟩:=ZO h1;obtain ⟨x2,rfl⟩:=W6 h2;obtain ⟨x3,rfl,u3⟩:=WY h3;obtain ⟨x4,rfl,u4⟩:=LZ h4;obtain ⟨x5,rfl,_⟩:=ZO h5;obtain ⟨rn,rs,rfl,lr,nr⟩:=tyRaws h8;have vals:∀ {a:List AV},JG Tryz.prog n 43 a->∃ nl,∃ l:List Vl,a=[.sl nl (l.map eB)]/\l.length * 120<=reachBytes/\(nl=true->l=[])/\∀ v∈l,v.ok/\v.lay:=fun {a} h=>by
   cases n with
   | zero=>exact h.elim
   | succ m =>
    simp only [JG,Tryz.underlying43,i9] at h;obtain ⟨nl,els,rfl,_,h2,h3,h4⟩:=h;obtain ⟨L,rfl,hL⟩:=WR (P:=fun x=>JG Tryz.prog m 46 x) (fun x hx=>tyVal m hx) els (fun x hx=>(h4 x hx).2);exact ⟨nl,L,rfl,by simpa using h2,(fun e=>by simpa using h3 e),hL⟩
  obtain ⟨kn,ks,rfl,lk,nk,hk⟩:=vals h6;obtain ⟨xn,xs,rfl,lx,nx,hx⟩:=vals h7;have hr:=reachB;rw [hr] at lk lx lr;refine ⟨.mk x1 x2 x3 x4 x5 kn ks xn xs rn rs,?_,?_,?_⟩
  ·rw [dB]; rfl
  ·rw [Vl.ok_def];exact ⟨(by show ks.length<=_; omega),(by show xs.length<=_; omega),(by show rs.length<=_; omega),u4,fun v hv=>(hk v hv).1,fun v hv=>(hx v hv).1⟩
  ·rw [Vl.lay_def];exact ⟨nk,nx,nr,lk,lx,lr,fun v hv=>(hk v hv).2,fun v hv=>(hx v hv).2⟩
section
variable {n:Nat} {a:List AV}
include n a
theorem tySym (h:JG Tryz.prog n 50 a):∃ r:AM,a=FA r/\True:=by
 cases n with
 | zero=>exact h.elim
 | succ n =>
  simp only [JG,Tryz.underlying50,tL] at h;obtain ⟨_,_,rfl,_,h1,_,_,rfl,_,h2,rfl⟩:=h;obtain ⟨x1,rfl,_⟩:=ZO h1;obtain ⟨x2,rfl,_⟩:=LZ h2;exact ⟨⟨x1,x2⟩,rfl,trivial⟩
theorem tyMem (h:JG Tryz.prog n 48 a):∃ m:EE,a=WA m/\m.ok/\m.dflt.lay:=by
 cases n with
 | zero=>exact h.elim
 | succ n =>
  simp only [JG,Tryz.underlying48,tL] at h;obtain ⟨_,_,rfl,_,h1,_,_,rfl,_,h2,_,_,rfl,_,h3,_,_,rfl,_,h4,_,_,rfl,_,h5,_,_,rfl,_,h6,rfl⟩:=h;obtain ⟨x1,rfl,_⟩:=ZO h1;obtain ⟨x2,rfl,u2⟩:=LZ h2;obtain ⟨x3,rfl,_⟩:=ZO h3;obtain ⟨x4,rfl⟩:=W6 h4;obtain ⟨x5,rfl⟩:=W6 h5;obtain ⟨v,rfl,h6,h7⟩:=tyVal _ h6;exact ⟨⟨x1,x2,x3,x4,x5,v⟩,by rw [dB]; rfl,⟨h6,u2⟩,h7⟩
theorem tySyms (h:JG Tryz.prog n 65 a):∃ nl,∃ l:List AM,a=[AV.sl nl (l.map FA)]/\l.length * 24<=reachBytes:=by
 cases n with
 | zero=>exact h.elim
 | succ m =>
  simp only [JG,Tryz.underlying65,u9] at h;obtain ⟨nl,els,e,_,h2,_,h4⟩:=h;obtain ⟨L,rfl,_⟩:=WR (P:=fun x=>JG Tryz.prog m 50 x) (fun x hx=>tySym hx) els (fun x hx=>(h4 x hx).2);exact ⟨nl,L,e,by simpa using h2⟩
theorem tyMems (h:JG Tryz.prog n 66 a):∃ nl,∃ l:List EE,a=[AV.sl nl (l.map WA)]/\l.length * 16<=reachBytes/\∀ m∈l,m.ok/\m.dflt.lay:=by
 cases n with
 | zero=>exact h.elim
 | succ m =>
  simp only [JG,Tryz.underlying66] at h;obtain ⟨nl,els,e,_,h2,_,h4⟩:=h;obtain ⟨L,rfl,hL⟩:=WR (P:=fun x=>JG Tryz.prog m 48 x) (fun x hx=>tyMem hx) els (fun x hx=>(h4 x hx).2);refine ⟨nl,L,e,?_,hL⟩;have:=Nat.mul_le_mul_left L.length w9;simp only [y9] at h2;omega
theorem tyTyp (h:JG Tryz.prog n 68 a):∃ t:XA,a=qA t/\t.fine/\∀ m∈t.mems,m.dflt.lay:=by
 cases n with
 | zero=>exact h.elim
 | succ n =>
  simp only [JG,Tryz.underlying68,tL] at h;obtain ⟨_,_,rfl,_,h1,_,_,rfl,_,h2,_,_,rfl,_,h3,_,_,rfl,_,h4,_,_,rfl,_,h5,_,_,rfl,_,h6,_,_,rfl,_,h7,_,_,rfl,_,h8,_,_,rfl,_,h9,_,_,rfl,_,sr,rfl⟩:=h;obtain ⟨x1,rfl,_⟩:=ZO h1;obtain ⟨x2,rfl,u2⟩:=LZ h2;obtain ⟨x3,rfl,q3⟩:=WY h3;obtain ⟨x4,rfl,q4⟩:=WY h4;obtain ⟨x5,rfl,_⟩:=ZO h5;obtain ⟨x8,rfl,_⟩:=ZO h8;obtain ⟨x9,rfl,_⟩:=ZO h9;obtain ⟨x10,rfl⟩:=W6 sr;obtain ⟨sn,sy,rfl,l6⟩:=tySyms h6;obtain ⟨mn,me,rfl,l7,hm⟩:=tyMems h7;have hr:=reachB;refine ⟨⟨x1,x2,x3,x4,x5,sn,sy,mn,me,x8,x9,x10⟩,rfl,⟨⟨?_,?_,fun m h=>(hm m h).1⟩,?_,?_⟩,fun m h=>(hm m h).2⟩
  all_goals dsimp only
  all_goals omega
theorem tySch (h:JG Tryz.prog n 24 a):∃ s:ZV,a=tG s/\s.fine/\∀ t∈s.types,∀ m∈t.mems,m.dflt.lay:=by
 cases n with
 | zero=>exact h.elim
 | succ n =>
  simp only [JG,Tryz.underlying24,tL] at h;obtain ⟨_,_,rfl,_,h1,rfl⟩:=h;cases n with
  | zero=>exact h1.elim
  | succ m =>
   simp only [JG,Tryz.underlying22] at h1;obtain ⟨nl,els,rfl,h1,_,_,h4⟩:=h1;obtain ⟨L,rfl,hL⟩:=WR (P:=fun x=>JG Tryz.prog m 68 x) (fun x hx=>tyTyp hx) els (fun x hx=>(h4 x hx).2);exact ⟨⟨nl,L⟩,rfl,⟨by simpa [maxLen] using h1,fun t ht=>(hL t ht).1⟩,fun t ht=>(hL t ht).2⟩
end
theorem schTy {a:AV} (h:ParT Tryz.prog 24 a):∃ s:ZV,a=.agg (tG s)/\s.fine/\∀ t∈s.types,∀ m∈t.mems,m.dflt.lay:=by
 obtain ⟨n,⟨_,c,rfl,h⟩ | ⟨hw,_⟩⟩:=h
 ·obtain ⟨s,rfl,h'⟩:=tySch h;exact ⟨s,rfl,h'⟩
 ·have aj:rK Tryz.prog 24=true:=by kernel_rfl
  rw [aj] at hw;cases hw
end
section
open Go Go.RowKit Go.ChangeShapes Go.WideShapes Go.ChangeAt
set_option maxRecDepth 100000 in
theorem gT (os:Os) (args:Array Value):laidMetH Tryz.prog Rows.evolveDiffRow.laid ((World.doorLaid Tryz.prog 4000 os).forCall (fun _ _=>0) ⟨#[],args,[]⟩).memory :=
 laidMetH_of_parts3 (fuel:=80) (laidMet_of_run' 80 (by kernel_rfl) (by kernel_rfl)) (by kernel_rfl) (by kernel_rfl)
set_option maxRecDepth 100000 in
theorem eQ (os:Os) (started:os.Started) (H:Type) (enc:TypeId × Value->H) :
  ReturnsInHanded {} Tryz.checked os 4 .any (fun w args=>(Rows.evolveDiffSpec.pre enc Tryz.prog Tryz.f4 Rows.evolveDiffRow.domain false w args/\laidMetH Tryz.prog Rows.evolveDiffRow.laid w)/\sizedMet enc Tryz.prog Tryz.f4 (OpenSpec.ofChange Rows.evolveDiffSpec) false w args) (Rows.evolveDiffSpec.post enc Tryz.prog Tryz.f4 false true false false):=by
 refine returnsInHanded_of_change_and (C:=Tryz.checked) (X:=fun w _=>laidMetH Tryz.prog Rows.evolveDiffRow.laid w) (fun _ _ _ hh h=>h.of_heap hh) own started (by kernel_rfl) Tryz.func4
  (ChangeSpec.witness_shaped (enc:=enc) (C:=Tryz.checked) (os:=os) (X:=fun w _=>laidMetH Tryz.prog Rows.evolveDiffRow.laid w) false (World.doorLaid Tryz.prog 4000 os) #[.agg #[.slice none 0 0],.agg #[.slice none 0 0]] 8 rfl (World.shaped_of_RefB (by kernel_rfl) (by kernel_rfl)) (by kernel_rfl) (by kernel_rfl) (by kernel_rfl) (gT os _)) ?_
 intro W base args ds gs before ey hW nq ac hL _;have zx:∀ (j:Nat) t v,Tryz.f4.params[j]?=some t->args[j]?=some v->Value.okWide Tryz.prog W .any base t v:=ey;have hW':=hW;obtain ⟨p,q,ki,hV,rfl,hfz,tw⟩:=hW;have hA:DataW.TrodAll enc Tryz.prog W 0 (fun _=>true) true Tryz.f4.params.toList args.toList ds p:=ki;rw [Tryz.params4] at hA zx;have wr:DataW.TrodAll enc Tryz.prog W 0 (fun _=>true) true [24,24] args.toList ds p:=hA;have hd:∃ d0 d1,ds=[d0,d1]:=by
  obtain ⟨_,_,d0,_,_,_,_,rfl,_,_,r0⟩:=trodAll_cons wr;obtain ⟨_,_,d1,_,_,_,_,rfl,_,_,r1⟩:=trodAll_cons r0;obtain ⟨_,rfl,_⟩:=trodAll_nil r1;exact ⟨d0,d1,rfl⟩
 obtain ⟨d0,d1,rfl⟩:=hd;obtain ⟨xs,hx,oe⟩:=Q8 (T:=schTs) G1 wr (fun j t v e e'=>zx j t v (by simpa using e) (by simpa using e')) (fun m hm=>of_decide_eq_true (y8.1 ac m (ZQ hm rfl))) (by kernel_rfl);simp only [j8] at oe;obtain ⟨a0,_,rfl,t0,a1,_,rfl,t1,rfl⟩:=oe;obtain ⟨s1,rfl,rf,mh⟩:=schTy t0;obtain ⟨s2,rfl,ci,jj⟩:=schTy t1;obtain ⟨rfl,rfl⟩:=trodVars_none hV;have uv:=CV s1 s2 rf ci (fun _=>mh) (fun _=>jj);have hC:=(wQ XX evoT_ok (evoX_ok (O:=noObjs.of)) uv).2 I6 W args.toList (fun _ _ h=>h.elim) hx;rw [yM] at hC;refine hC.mono fun e W' ⟨v,he,hv,hb⟩=>?_
 have wx:v=.bool true:=hv;subst he;subst wx;exact ⟨_,rfl,PW (pa:=p) (pv:=[]) hW' (fun _ _ _=>trodAll_cons_mk (shut_bool Tryz.underlying4 _) trodAll_mk0) (KW laidOut hb wr (by kernel_rfl)) rfl hb⟩
theorem BV:joinA Tryz.pinned.checked.prog 4 Tryz.f4 Rows.evolveDiffSpec Rows.evolveDiffRow=true:=by kernel_rfl
theorem NV:joinB Tryz.pinned.checked.prog 4 Tryz.f4 Rows.evolveDiffSpec Rows.evolveDiffRow=true:=by kernel_rfl
theorem MV:joinC Tryz.pinned.checked.prog 4 Tryz.f4 Rows.evolveDiffSpec Rows.evolveDiffRow=true:=by kernel_rfl
theorem qW:joinD Tryz.pinned.checked.prog 4 Tryz.f4 Rows.evolveDiffSpec Rows.evolveDiffRow=true:=by kernel_rfl
theorem wW:joinE Tryz.pinned.checked.prog 4 Tryz.f4 Rows.evolveDiffSpec Rows.evolveDiffRow=true:=by kernel_rfl
theorem eW:joinF Tryz.pinned.checked.prog 4 Tryz.f4 Rows.evolveDiffSpec Rows.evolveDiffRow=true:=by kernel_rfl
theorem rW:joinG Tryz.pinned.checked.prog 4 Tryz.f4 Rows.evolveDiffSpec Rows.evolveDiffRow=true:=by kernel_rfl
theorem pR:Rows.EvolveDiffSaid :=
 OpenClaim.holds_of_wide 4 Tryz.f4 rfl rfl rfl rfl rfl rfl rfl ⟨rfl,rfl,rfl,rfl,rfl⟩ rfl rfl rfl rfl rfl (by kernel_rfl) Tryz.func4 (x7 BV NV MV qW wW eW rW)
  (of_decide_eq_true (by kernel_rfl)) (by unfold Func.isWrapper; first | (rw [if_pos (by decide +kernel)]; kernel_rfl) | (rw [if_neg (by decide +kernel)]; exact ⟨rfl,rfl⟩))
  (fun os started H enc _=>eQ os started H enc)
end
end Go.Proofs.YtbhbeakhognieaaGreatDoor
