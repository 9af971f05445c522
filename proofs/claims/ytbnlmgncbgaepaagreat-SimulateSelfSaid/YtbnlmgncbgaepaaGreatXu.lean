/- A part of the proof. -/
import Derived.Test.YtbnlmgncbgaepaaGreatXm
import Derived.Test.YtbnlmgncbgaepaaGreatXq
import Derived.Test.YtbnlmgncbgaepaaGreatXt
import Derived.Shelf.SlSortCmp.NoneTotal
import Derived.Deep.QuietTactic
import Derived.BigQuiet
set_option linter.all false
set_option maxRecDepth 100000
set_option maxHeartbeats 8000000
open Option renaming bind_some → V, map_some → yA
open List renaming range_succ → J, map_map → y0, getElem?_eq_getElem → y4, all_eq_true → y5, getElem_mem → y6, getElem?_eq_some_iff → y9, drop_eq_getElem_cons → yb, getElem?_map → yc, drop_eq_nil_of_le → ye, mem_cons → yf, map_cons → yg, mem_of_getElem? → yj, mem_cons_self → yk, length_append → yl, map_nil → yn, length_map → yo, mem_cons_of_mem → yp, map_congr_left → yq, mem_append → yt, take_of_length_le → yx, mem_map → yy, flatten_cons → yz, getElem_of_mem → yB, length_take → yC, length_cons → yE, take_append_getElem → yH, eq_nil_of_length_eq_zero → yM, mem_map_of_mem → yN, getElem?_take → yO, nil_append → yP, map_append → yS, append_assoc → yU, getElem?_eq_none → yW
open Int renaming toNat_lt → y3, tmod_eq_emod_of_nonneg → yu, emod_nonneg → yI, emod_lt_of_pos → yL
open Bool renaming and_eq_true → y7, false_eq_true → yr
open Nat renaming zero_add → yG
open Array renaming getElem?_eq_getElem → yY
namespace Go.Proofs.YtbnlmgncbgaepaaGreat
open Go
def aM (dn:Bool) (l:List dC) (cn:Bool) (cs:List xU) (T U:Int):List AV:=[.sl dn (l.map gD),.sl cn (cs.map nV),.int .u8 T,.int .u8 U]
structure nZ (l:List dC) (cs:List xU) (T U:Int):Prop where
 nds:∀ x∈l,x.ok/\x.sized
 sz:l.length * 32<=140737488355328
 chs:∀ c∈cs,c.ok
 cl:cs.length<=9223372036854775807
 t:u8 T
 u:u8 U
def PQ:AV:=.tup [.agg [.sl true [],.int .i64 0],.agg [.sl true [],.int .i64 0],.bool false]
theorem of20_ev {dn cn:Bool} {l:List dC} {cs:List xU} {T U:Int} (h:nZ l cs T U):∃ r:RV,(r=(PQ,none)\/∃ l1 l2 t u,oks l1/\oks l2/\rN (uA l1).length (uA l2).length (t,u)/\r=(.tup [.agg (OB ⟨false,uA l1⟩ t),.agg (OB ⟨false,uA l2⟩ u),.bool true],none))/\wH jA rA 18 [.agg (aM dn l cn cs T U)] none=some r:=by
 obtain ⟨r1,⟨l2,rk,rfl⟩,ky⟩:=P6 (dn:=dn) (cn:=cn) h.nds h.sz h.chs h.cl;have ax:=U0 (dn:=dn) (l:=l) fun x hx=>(h.nds x hx).1
 have br:=U0 (dn:=false) (l:=l2) rk;obtain ⟨t0,t1⟩:=h.t;obtain ⟨u0,u1⟩:=h.u;have hwT:IntKind.i64.wrap T=T:=IntWalk.i64_in _ (by omega);have hwU:IntKind.i64.wrap U=U:=IntWalk.i64_in _ (by omega);simp only [gA,mF] at ax br ky;rcases ax with ⟨hok1,ax⟩ | ⟨_,ax⟩
 ·rcases br with ⟨fi,br⟩ | ⟨_,br⟩
  ·by_cases h5:5<(cs.length:Int)
   ·refine ⟨_,.inl rfl,?_⟩;refine wA (c:=HE) rfl rfl ?_;simp [HE,aM,PQ,-V,-y3,-y0,J,ax,ky,br,h5]
   ·have hS1:(uA l).length=l.length:=by simp [uA]
    have hS2:(uA l2).length=l2.length:=by simp [uA]
    have p1:=hok1.1;have p2:=fi.1;have p15:=hok1.2.1;have p25:=fi.2.1;have a0:=yI T (b:=((uA l).length:Int)) (by omega);have a1:=yL T (b:=((uA l).length:Int)) (by omega);have am:T.tmod (uA l).length=T % (uA l).length:=yu t0;generalize T % ((uA l).length:Int)=t at *
    have hwA:IntKind.i64.wrap (t + U)=t + U:=IntWalk.i64_in _ (by omega);have b0:=yI (t + U) (b:=((uA l2).length:Int)) (by omega);have b1:=yL (t + U) (b:=((uA l2).length:Int)) (by omega);have bm:(t + U).tmod (uA l2).length=(t + U) % (uA l2).length:=yu (by omega);have n1:¬ (uA l)=[]:=fun e=>by rw [e] at hS1; simp at hS1; omega
    have n2:¬ (uA l2)=[]:=fun e=>by rw [e] at hS2; simp at hS2; omega
    have n1':¬ (uA l).length=0:=by omega
    have n2':¬ (uA l2).length=0:=by omega
    generalize hu:(t + U) % ((uA l2).length:Int)=u at *
    refine ⟨_,.inr ⟨l,l2,t,u,hok1,fi,⟨a0,a1,b0,b1⟩,rfl⟩,?_⟩;refine wA (c:=HE) rfl rfl ?_;simp only [OB];generalize uA l=S1 at *
    generalize uA l2=S2 at *
    simp [HE,aM,-V,-y3,-y0,J,ax,ky,br,h5,hwT,hwU,am,bm,hwA,n1,n2,n1',n2']
  ·refine ⟨_,.inl rfl,?_⟩;refine wA (c:=HE) rfl rfl ?_;simp [HE,aM,PQ,-V,-y3,-y0,J,ax,ky,br]
 ·refine ⟨_,.inl rfl,?_⟩;refine wA (c:=HE) rfl rfl ?_;rcases br with ⟨_,br⟩ | ⟨_,br⟩
  ·simp [HE,aM,PQ,-V,-y3,-y0,J,ax,ky,br]
  ·simp [HE,aM,PQ,-V,-y3,-y0,J,ax,ky,br]
section
open Go Go.RowKit Go.ChangeShapes Go.WideShapes
theorem mixed:Tryz.prog.follows .mixedOrders=true:=by kernel_rfl
theorem u8_of {n:Int} (h:(Lit.int .u8 n).wf=true):u8 n:=by
 simp only [Lit.wf,y7,decide_eq_true_eq] at h;have h1:IntKind.u8.min=0:=rfl;have h2:IntKind.u8.max=255:=rfl;exact ⟨by omega,by omega⟩
def bV:List TypeId:=[27,24,22,127,125,165,25,162,5,3]
theorem XO:bV.all (NO Tryz.prog bV)=true:=by kernel_rfl
theorem XL {H:Type} {P:Program} {m:Nat}:∀ {ts us:List TypeId} {ds gs:List (DataW H)},m∈DataW.weightsEach P ts ds->ts.length=ds.length->m∈DataW.weightsEach P (ts++us) (ds++gs)
 | [],_,[],_,h,_=>by simp [DataW.weightsEach] at h
 | [],_,_ :: _,_,_,h=>by simp at h
 | _ :: _,_,[],_,_,h=>by simp at h
 | t :: ts,us,d :: ds,gs,h,hl=>by
  simp only [DataW.weightsEach,yt,List.cons_append] at h ⊢;rcases h with h | h
  ·exact .inl h
  ·exact .inr (XL h (by simpa using hl))
theorem E0 {α:Type} {P:List AV->Prop} {f:α->List AV} {p:α->Prop} (h:∀ x,P x->∃ o,x=f o/\p o):∀ els:List (List AV),(∀ x∈els,P x)->∃ L:List α,els=L.map f/\∀ o∈L,p o
 | [],_=>⟨[],rfl,fun _ h=>by cases h⟩
 | x :: r,hx=>by
  obtain ⟨L,h1,h2⟩:=E0 h r fun y hy=>hx y (yp _ hy)
  obtain ⟨o,h3,h4⟩:=h x (hx x yk);refine ⟨o :: L,by rw [h1,h3]; rfl,fun y hy=>?_⟩;rcases yf.1 hy with rfl | hy
  ·exact h4
  ·exact h2 y hy
theorem bytesNode:Tryz.prog.bytesOf 127=32:=by kernel_rfl
theorem bytesPart:Tryz.prog.bytesOf 165=3:=by kernel_rfl
theorem reachB:reachBytes=140737488351232:=rfl
section
variable {n:Nat} {a:List AV}
include n a
theorem tyU (h:MM Tryz.prog n 5 a):∃ x,a=[.int .u8 x]/\u8 x:=by
 cases n with
 | zero=>exact h.elim
 | succ n =>
  simp only [MM,Tryz.underlying5] at h;obtain ⟨x,rfl,hx⟩:=h;exact ⟨x,rfl,u8_of hx⟩
theorem tyPart (h:MM Tryz.prog n 165 a):∃ p:WP,a=qE p/\p.ok:=by
 cases n with
 | zero=>exact h.elim
 | succ n =>
  simp only [MM,Tryz.underlying165,JO] at h;obtain ⟨_,_,rfl,_,h1,_,_,rfl,_,h2,_,_,rfl,_,h3,rfl⟩:=h;obtain ⟨x1,rfl,u1⟩:=tyU h1;obtain ⟨x2,rfl,u2⟩:=tyU h2;obtain ⟨x3,rfl,u3⟩:=tyU h3;exact ⟨⟨x1,x2,x3⟩,rfl,u1,u2,u3⟩
theorem tyChg (h:MM Tryz.prog n 162 a):∃ c:xU,a=nV c/\c.ok:=by
 cases n with
 | zero=>exact h.elim
 | succ n =>
  simp only [MM,Tryz.underlying162,JO] at h;obtain ⟨_,_,rfl,_,h1,_,_,rfl,_,h2,_,_,rfl,_,h3,_,_,rfl,_,h4,rfl⟩:=h;obtain ⟨x1,rfl,u1⟩:=tyU h1;obtain ⟨x2,rfl,u2⟩:=tyU h2;obtain ⟨x3,rfl,u3⟩:=tyU h3;obtain ⟨x4,rfl,u4⟩:=tyU h4;exact ⟨⟨x1,x2,x3,x4⟩,rfl,u1,u2,u3,u4⟩
theorem tyParts (h:MM Tryz.prog n 125 a):∃ nl,∃ ps:List WP,a=[.sl nl (ps.map qE)]/\(∀ p∈ps,p.ok)/\ps.length * 3<=140737488351232:=by
 cases n with
 | zero=>exact h.elim
 | succ n =>
  simp only [MM,Tryz.underlying125,bytesPart,reachB] at h;obtain ⟨nl,els,rfl,_,h2,_,h4⟩:=h;obtain ⟨L,rfl,hL⟩:=E0 (P:=fun x=>MM Tryz.prog n 165 x) (fun x hx=>tyPart hx) els (fun x hx=>(h4 x hx).2);exact ⟨nl,L,rfl,hL,by simpa using h2⟩
theorem tyChgs (h:MM Tryz.prog n 25 a):∃ nl,∃ ps:List xU,a=[.sl nl (ps.map nV)]/\(∀ p∈ps,p.ok)/\ps.length<=9223372036854775807:=by
 cases n with
 | zero=>exact h.elim
 | succ n =>
  simp only [MM,Tryz.underlying25] at h;obtain ⟨nl,els,rfl,h1,_,_,h4⟩:=h;obtain ⟨L,rfl,hL⟩:=E0 (P:=fun x=>MM Tryz.prog n 162 x) (fun x hx=>tyChg hx) els (fun x hx=>(h4 x hx).2);exact ⟨nl,L,rfl,hL,by simpa [maxLen] using h1⟩
theorem tyNode (h:MM Tryz.prog n 127 a):∃ x:dC,a=gD x/\x.ok/\x.sized:=by
 cases n with
 | zero=>exact h.elim
 | succ n =>
  simp only [MM,Tryz.underlying127,JO] at h;obtain ⟨_,_,rfl,_,h1,_,_,rfl,_,h2,_,_,rfl,_,h3,_,_,rfl,_,h4,_,_,rfl,_,h5,rfl⟩:=h;obtain ⟨x1,rfl,u1⟩:=tyU h1;obtain ⟨x2,rfl,u2⟩:=tyU h2;obtain ⟨x3,rfl,u3⟩:=tyU h3;obtain ⟨x4,rfl,u4⟩:=tyU h4;obtain ⟨nl,ps,rfl,p1,p2⟩:=tyParts h5;exact ⟨⟨x1,x2,x3,x4,nl,ps⟩,rfl,⟨u1,u2,u3,u4,by dsimp only; omega,p1⟩,by unfold dC.sized; dsimp only; omega⟩
theorem tyDraft (h:MM Tryz.prog n 24 a):∃ nl,∃ l:List dC,a=[.sl nl (l.map gD)]/\(∀ x∈l,x.ok/\x.sized)/\l.length * 32<=140737488351232:=by
 cases n with
 | zero=>exact h.elim
 | succ n =>
  simp only [MM,Tryz.underlying24,JO] at h;obtain ⟨_,_,rfl,_,h1,rfl⟩:=h;cases n with
  | zero=>exact h1.elim
  | succ n =>
   simp only [MM,Tryz.underlying22,bytesNode,reachB] at h1;obtain ⟨nl,els,rfl,_,h2,_,h4⟩:=h1;obtain ⟨L,rfl,hL⟩:=E0 (P:=fun x=>MM Tryz.prog n 127 x) (fun x hx=>tyNode hx) els (fun x hx=>(h4 x hx).2);exact ⟨nl,L,rfl,hL,by simpa using h2⟩
end
theorem caseTy {a:AV} (h:ParT Tryz.prog 27 a):∃ dn,∃ l:List dC,∃ cn,∃ cs:List xU,∃ T U:Int,a=.agg (aM dn l cn cs T U)/\nZ l cs T U:=by
 obtain ⟨n,⟨_,c,rfl,h⟩ | ⟨hw,_⟩⟩:=h
 ·cases n with
  | zero=>exact h.elim
  | succ n =>
   simp only [MM,Tryz.underlying27,JO] at h;obtain ⟨_,_,rfl,_,h1,_,_,rfl,_,h2,_,_,rfl,_,h3,_,_,rfl,_,h4,rfl⟩:=h;obtain ⟨dn,l,rfl,l1,l2⟩:=tyDraft h1;obtain ⟨cn,cs,rfl,c1,c2⟩:=tyChgs h2;obtain ⟨T,rfl,u3⟩:=tyU h3;obtain ⟨U,rfl,u4⟩:=tyU h4;exact ⟨dn,l,cn,cs,T,U,rfl,l1,by omega,c1,c2,u3,u4⟩
 ·have oc:cL Tryz.prog 27=true:=by kernel_rfl
  rw [oc] at hw;cases hw
theorem draftTy {a:AV} (h:ParT Tryz.prog 24 a):∃ dn,∃ l:List dC,a=.agg (mF dn l)/\(∀ x∈l,x.ok/\x.sized)/\l.length * 32<=140737488351232:=by
 obtain ⟨n,⟨_,c,rfl,h⟩ | ⟨hw,_⟩⟩:=h
 ·obtain ⟨dn,l,rfl,l1,l2⟩:=tyDraft h;exact ⟨dn,l,rfl,l1,l2⟩
 ·have oc:cL Tryz.prog 24=true:=by kernel_rfl
  rw [oc] at hw;cases hw
theorem u8Ty {a:AV} (h:ParT Tryz.prog 5 a):∃ x,a=.int .u8 x/\u8 x:=by
 obtain ⟨n,⟨hw,_⟩ | ⟨_,h⟩⟩:=h
 ·have oc:cL Tryz.prog 5=false:=by kernel_rfl
  rw [oc] at hw;cases hw
 ·obtain ⟨x,e,hx⟩:=tyU h;injection e with e;exact ⟨x,e,hx⟩
end
def KF:C:=oR [oB 47 .lss 46 45] (.seq (oD 47 .skip (.exit 2)) (.seq (.block 3 (oR [oI 48 2 44 46,oA 49 2 48,oY 11 [(.int .i64 0),(.int .i64 0)],oV 2 11 49] (oR [oM 50 8,oA 51 2 11,oS 52 (.mget false (.agg [(.some .i64),(.some .i64)]) (.bool false) (.t 50) (.t 51)),oU 53 52] (oD 53 (oR [oM 54 8,oA 55 2 11,oN (.mset (.agg [(.some .i64),(.some .i64)]) (.t 54) (.t 55) (.c (.bool true)))] (.reg [oM 56 6,oA 57 2 11,oS 58 (.bsl [(.int .i64 0),(.int .i64 0)] 1 [(0,(.t 57))]),oS 59 (.appm .any 63 2 16 (.t 56) (.t 58)),oM 60 7,oM 61 9,oS 62 (.bsl [(.int .i64 0)] 1 [(0,(.t 61))]),oAp 63 3 1 8 60 62,oM 6 59,oM 7 63])) .skip)))) (.reg [oC 64 .add 46 1,oM 46 64])))
def iK:C:=.seq (oR [oM 24 9,oM 25 6,oH 26 25,oB 27 .lss 24 26] (oD 27 .skip (.exit 0))) (.seq (.block 1 (oR [oF 30 0 2,oS 31 (.load (.root 2) true 1 (.t 30)),oM 32 6,oM 33 9,oI 34 2 32 33,oS 35 (.aaddr 2 1 (.t 34) (.c (.int .i64 0))),oL 36 35,oF 37 0 3,oS 38 (.load (.root 3) true 1 (.t 37)),oM 39 6,oM 40 9,oI 41 2 39 40,oS 42 (.aaddr 2 1 (.t 41) (.c (.int .i64 1))),oL 43 42,oC4 44 79 31 36 38 43,oH 45 44,oJ 46 0] (.block 2 (.loop KF)))) (.reg [oM 28 9,oC 29 .add 28 1,oM 9 29]))
def SK:zB:=⟨(oR [oQ 2 2 0,oQ 3 2 1,oS 4 (.mv (.c (.sl true []))),oS 5 (.mv (.c (.sl true [])))] (oR [oF 12 1 2,oL 13 12,oF 14 1 3,oL 15 14,oS 16 (.build [(.int .i64 0),(.int .i64 0)] [(0,(1,(.t 13))),(1,(1,(.t 15)))]),oS 17 (.bslr 2 [(.int .i64 0),(.int .i64 0)] 1 [(0,(.t 16))]),oS 18 (.bsl [(.int .i64 0)] 1 [(0,(.c (.int .i64 (-1))))]),oM 6 17,oM 7 18] (oR [oS 19 (.mkm),oM 20 6,oS 21 (.iaddr 2 (.t 20) (.c (.int .i64 0))),oA 22 2 21,oN (.mset (.agg [(.some .i64),(.some .i64)]) (.t 19) (.t 22) (.c (.bool true))),oM 23 19,oM 8 23] (.seq (oR [oJ 9 0] (.block 0 (.loop iK))) (oR [oM 65 6,oM 66 7,oM 4 65,oM 5 66] .ret))))),[(.tmp 4),(.tmp 5)],2,[34,119]⟩
def HF:C:=.seq (oR [oM 36 12,oM 37 11,oH 38 37,oB 39 .lss 36 38] (oD 39 .skip (.exit 2))) (.seq (.block 3 (oR [oM 42 9,oM 43 11,oM 44 12,oI 45 2 43 44,oA 46 2 45,oC2 47 35 42 46,oU 48 47] (oD 48 (.reg [oM 49 9,oM 50 11,oM 51 12,oI 52 2 50 51,oA 53 2 52,oS 54 (.bsl [(.int .i64 0),(.int .i64 0)] 1 [(0,(.t 53))]),oS 55 (.appm .any 63 2 16 (.t 49) (.t 54)),oM 9 55]) .skip))) (.reg [oM 40 12,oC 41 .add 40 1,oM 12 41]))
def uK:C:=.seq (oR [oM 17 10,oM 18 9,oH 19 18,oB 20 .lss 17 19] (oD 20 .skip (.exit 0))) (.seq (.block 1 (oR [oS 23 (.load (.root 4) true 1 (.t 4)),oM 24 9,oM 25 10,oI 26 2 24 25,oS 27 (.aaddr 2 1 (.t 26) (.c (.int .i64 0))),oL 28 27,oS 29 (.load (.root 6) true 1 (.t 6)),oM 30 9,oM 31 10,oI 32 2 30 31,oS 33 (.aaddr 2 1 (.t 32) (.c (.int .i64 1))),oL 34 33,oC4 35 41 23 28 29 34,oM 11 35] (oR [oJ 12 0] (.block 2 (.loop HF))))) (.reg [oM 21 10,oC 22 .add 21 1,oM 10 22]))
def AK:zB:=⟨(oR [oQ 4 1 0,oQ 6 1 2,oS 8 (.mv (.c (.sl true [])))] (oR [oM 13 1,oM 14 3,oS 15 (.build [(.int .i64 0),(.int .i64 0)] [(0,(1,(.t 13))),(1,(1,(.t 14)))]),oS 16 (.bslr 2 [(.int .i64 0),(.int .i64 0)] 1 [(0,(.t 15))]),oM 9 16] (.seq (oR [oJ 10 0] (.block 0 (.loop uK))) (oR [oM 56 9,oM 8 56] .ret)))),[(.tmp 8)],4,[32,111]⟩
def LF:zB:=⟨(oR [oQ 2 2 0,oQ 3 2 1,oS 4 (.mv (.c (.sl true []))),oJ 5 0] (oR [oA 11 2 2,oA 12 2 3,oC2 13 21 11 12,oM 10 13,oX 14 10 0,oX 15 10 1,oM 6 14,oM 7 15] (.seq (oR [oM 16 7,oC 17 .neq 16 0] (oD 17 (oR [oM 18 7,oS 4 (.mv (.c (.sl true []))),oM 5 18] .ret) .skip)) (.seq (oR [oM 19 6,oU 20 19] (oD 20 (oR [oS 4 (.mv (.c (.sl true []))),oJ 5 12] .ret) .skip)) (oR [oA 22 2 2,oA 23 2 3,oS 24 (.callh 30 (.c (.fn 81 [])) [(.t 22),(.t 23)]),oM 21 24,oX 25 21 0,oX 26 21 1,oM 8 25,oM 9 26] (oR [oM 27 8,oS 28 (.callr .any 82 [(.t 27),(.c (.fn 83 []))])] (oR [oM 29 8,oM 4 29,oJ 5 0] .ret))))))),[(.tmp 4),(.tmp 5)],2,[57,1000000 + 81]⟩
def QD:C:=.seq (oR [oM 38 10,oC 39 .gtr 38 0,oM 40 39,oMg 41 8 40 true,oMg 42 10 40 true,oIg 43 2 41 42 40 true,oG 44 (.aaddr 2 1 (.t 43) (.c (.int .i64 0))) 40 true,oP 45 44 40 true,oMg 46 8 40 true,oMg 47 10 40 true,oCi 48 .sub 47 1 40 true,oIg 49 2 46 48 40 true,oG 50 (.aaddr 2 1 (.t 49) (.c (.int .i64 0))) 40 true,oP 51 50 40 true,oBg 52 .lss 45 51 40 true,oMg 53 52 40 true,oMg 54 8 53 false,oMg 55 10 53 false,oIg 56 2 54 55 53 false,oG 57 (.aaddr 2 1 (.t 56) (.c (.int .i64 0))) 53 false,oP 58 57 53 false,oMg 59 8 53 false,oMg 60 10 53 false,oCi 61 .sub 60 1 53 false,oIg 62 2 59 61 53 false,oG 63 (.aaddr 2 1 (.t 62) (.c (.int .i64 0))) 53 false,oP 64 63 53 false,oBg 65 .eql 58 64 53 false,oMg 66 65 53 false,oMg 67 8 66 true,oMg 68 10 66 true,oIg 69 2 67 68 66 true,oG 70 (.aaddr 2 1 (.t 69) (.c (.int .i64 1))) 66 true,oP 71 70 66 true,oMg 72 8 66 true,oMg 73 10 66 true,oCi 74 .sub 73 1 66 true,oIg 75 2 72 74 66 true,oG 76 (.aaddr 2 1 (.t 75) (.c (.int .i64 1))) 66 true,oP 77 76 66 true,oBg 78 .lss 71 77 66 true,oPb 79 66 78 53 false,oG 80 (.pick (.t 53) (.c (.bool true)) (.t 79)) 40 true,oPa 81 40 80] (oD 81 .skip (.exit 2))) (.seq (.block 3 (.reg [oM 84 8,oM 85 10,oM 86 8,oM 87 10,oC 88 .sub 87 1,oM 89 8,oM 90 10,oC 91 .sub 90 1,oI 92 2 89 91,oA 93 2 92,oM 94 8,oM 95 10,oI 96 2 94 95,oA 97 2 96,oI 98 2 84 85,oV 2 98 93,oI 99 2 86 88,oV 2 99 97])) (.reg [oM 82 10,oC 83 .sub 82 1,oM 10 83]))
def bJ:C:=.seq (oR [oM 31 9,oM 32 8,oH 33 32,oB 34 .lss 31 33] (oD 34 .skip (.exit 0))) (.seq (.block 1 (oR [oM 37 9,oM 10 37] (.block 2 (.loop QD)))) (.reg [oM 35 9,oC 36 .add 35 1,oM 9 36]))
def JF:zB:=⟨(oR [oQ 2 2 0,oQ 3 2 1,oS 4 (.mv (.c (.sl true []))),oJ 5 0] (oR [oA 12 2 2,oA 13 2 3,oC2 14 29 12 13,oM 11 14,oX 15 11 0,oX 16 11 1,oM 6 15,oM 7 16] (.seq (oR [oM 17 7,oC 18 .neq 17 0] (oD 18 (oR [oM 19 7,oS 4 (.mv (.c (.sl true []))),oM 5 19] .ret) .skip)) (.seq (oR [oM 20 6,oU 21 20] (oD 21 (oR [oS 4 (.mv (.c (.sl true []))),oJ 5 12] .ret) .skip)) (oR [oF 22 0 2,oA 23 1 22,oF 24 1 2,oL 25 24,oF 26 0 3,oA 27 1 26,oF 28 1 3,oL 29 28,oS 30 (.callh 101 (.c (.fn 85 [])) [(.t 23),(.t 25),(.t 27),(.t 29)]),oM 8 30] (.seq (oR [oJ 9 1] (.block 0 (.loop bJ))) (oR [oM 100 8,oM 4 100,oJ 5 0] .ret))))))),[(.tmp 4),(.tmp 5)],2,[1000000 + 85]⟩
theorem GW:TA Tryz.prog 81 SK:=okF Tryz.func81
theorem FW:TA Tryz.prog 85 AK:=okF Tryz.func85
theorem SU:TA Tryz.prog 30 LF:=okF Tryz.func30
theorem AU:TA Tryz.prog 31 JF:=okF Tryz.func31
section
open Go Go.RowKit
set_option maxHeartbeats 1000000
theorem ZZ (x:Int) (w:World):Calls Tryz.prog 171 #[.int .i64 x] w fun e w'=>e=.returned (.bool false)/\w'=w:=by
 go_enter Tryz.func171,Tryz.ntmps171
 go_wp2_with fail
 go_ret
 exact ⟨by simp,rfl⟩
theorem cmp_c (x y:Int) (w:World):Calls Tryz.prog 140 #[.int .i64 x,.int .i64 y] w fun e w'=>e=.returned (.int .i64 (Lib.compareInt x y))/\w'=w:=by
 by_cases h1:x<y
 ·have hr:Lib.compareInt x y=-1:=by simp [Lib.compareInt,h1]
  rw [hr]
  go_enter Tryz.func140,Tryz.ntmps140
  go_wp2_with (go_at_call 171; refine (ZZ _ _).mono ?_; rintro e w' ⟨rfl,rfl⟩)
  go_ret
  exact ⟨rfl,rfl⟩
 ·by_cases h2:y<x
  ·have hr:Lib.compareInt x y=1:=by simp [Lib.compareInt,h1,h2]
   rw [hr]
   go_enter Tryz.func140,Tryz.ntmps140
   go_wp2_with (go_at_call 171; refine (ZZ _ _).mono ?_; rintro e w' ⟨rfl,rfl⟩)
   go_ret
   exact ⟨rfl,rfl⟩
  ·have hr:Lib.compareInt x y=0:=by simp [Lib.compareInt,h1,h2]
   rw [hr]
   go_enter Tryz.func140,Tryz.ntmps140
   go_wp2_with (go_at_call 171; refine (ZZ _ _).mono ?_; rintro e w' ⟨rfl,rfl⟩)
   go_ret
   exact ⟨rfl,rfl⟩
def DS (x y:(Int × Int)):Int:=if Lib.compareInt x.1 y.1=0 then Lib.compareInt x.2 y.2 else Lib.compareInt x.1 y.1
theorem compare_c (x y:(Int × Int)) (a b:Nat) (w:World) (h0:w.cell? ⟨a,0,none⟩=some (.int .i64 x.1)) (h1:w.cell? ⟨a,1,none⟩=some (.int .i64 x.2)) (g0:w.cell? ⟨b,0,none⟩=some (.int .i64 y.1)) (g1:w.cell? ⟨b,1,none⟩=some (.int .i64 y.2)) :
  Calls Tryz.prog 84 #[.slice (some ⟨a,0,none⟩) 2 2,.slice (some ⟨b,0,none⟩) 2 2] w fun e w'=>e=.returned (.int .i64 (DS x y))/\w'=w:=by
 have HC:=MO (fun x y w=>cmp_c x y w);generalize oo:Lib.compareInt x.1 y.1=c1;generalize iy:Lib.compareInt x.2 y.2=c2;have hr:DS x y=if c1=0 then c2 else c1:=by unfold DS; rw [oo,iy]
 rw [hr];have H1:=MO (fun w=>by have:=cmp_c x.1 y.1 w; rwa [oo] at this:∀ w,Calls Tryz.prog 140 #[.int .i64 x.1,.int .i64 y.1] w fun e w'=>e=.returned (.int .i64 c1)/\w'=w);have H2:=MO (fun w=>by have:=cmp_c x.2 y.2 w; rwa [iy] at this:∀ w,Calls Tryz.prog 140 #[.int .i64 x.2,.int .i64 y.2] w fun e w'=>e=.returned (.int .i64 c2)/\w'=w);clear HC oo iy hr
 go_enter Tryz.func84,Tryz.ntmps84
 go_wp2_with fail
 go_loopw [11] (fun i wr=>∃ k:Nat,k<=2/\i=.int .i64 k/\wr=w/\Hid (0<k->c1=0)/\Hid (1<k->c2=0)) (fun i _=>2 - (intOf i).toNat)
 case atStart=>exact ⟨0,by omega,rfl,rfl,MO (by omega),MO (by omega)⟩
 case round =>
  obtain ⟨k,hk,rfl,rfl,K1,K2⟩:=hrel
  match k,hk with
  | 0,_ =>
   by_cases hz:c1=0
   ·have na:(c1 != 0)=false:=by simp [hz]
    have HZ:=MO hz;clear hz
    go_wp2_with (go_at_call 140; refine (H1.out _).mono ?_; rintro e w' ⟨rfl,rfl⟩)
    go_roundw
    case rel=>exact ⟨1,by omega,by go_num,by first | rfl | trivial,MO (fun _=>HZ.out),MO (by omega)⟩
    case measure=>simp [intOf]
   ·have na:(c1 != 0)=true:=by simp [hz]
    have HZ:=MO hz;clear hz
    go_wp2_with (go_at_call 140; refine (H1.out _).mono ?_; rintro e w' ⟨rfl,rfl⟩)
    go_ret
    refine ⟨?_,rfl⟩
    first | (rw [if_neg HZ.out]; done) | rfl
  | 1,_ =>
   have HZ1:=MO (K1.out (by omega));by_cases hz:c2=0
   ·have na:(c2 != 0)=false:=by simp [hz]
    have HZ:=MO hz;clear hz
    go_wp2_with (go_at_call 140; refine (H2.out _).mono ?_; rintro e w' ⟨rfl,rfl⟩)
    go_roundw
    case rel=>exact ⟨2,by omega,by go_num,by first | rfl | trivial,MO (fun _=>HZ1.out),MO (fun _=>HZ.out)⟩
    case measure=>simp [intOf]
   ·have na:(c2 != 0)=true:=by simp [hz]
    have HZ:=MO hz;clear hz
    go_wp2_with (go_at_call 140; refine (H2.out _).mono ?_; rintro e w' ⟨rfl,rfl⟩)
    go_ret
    refine ⟨?_,rfl⟩
    first | (rw [if_pos HZ1.out]; done) | rfl
  | 2,_ =>
   have e1:=K1.out (by omega);have e2:=K2.out (by omega);subst e1;subst e2
   go_wp2_with fail
   go_ret
   all_goals exact ⟨rfl,rfl⟩
theorem clos_c (x y:(Int × Int)) (W:World):Calls Tryz.prog 83 #[.agg #[.int .i64 x.1,.int .i64 x.2],.agg #[.int .i64 y.1,.int .i64 y.2]] W fun e w'=>e=.returned (.int .i64 (DS x y))/\∃ q os',w'=Sort.grow (W.drewN q) os':=by
 have HC:=MO (fun a b w=>compare_c x y a b w);generalize DS x y=r at HC
 go_enter Tryz.func83,Tryz.ntmps83
 go_wp2_with fail
 go_quiet ((go_at_call 84; refine Calls.quiet_of_same (HC.out _ _ _ ?_ ?_ ?_ ?_) <;> go_simp))
 go_wp2_with fail
 go_ret
 exact ⟨rfl,nq,_,by rw [Sort.alloc_eq_grow,Sort.alloc_eq_grow,Sort.grow_grow]; rfl⟩
end
def z6 (x y:Pr):Bool:=decide (x.1<y.1)||(decide (x.1=y.1)&&decide (x.2<y.2))
def p7 (x y:Pr):Bool:=!z6 y x
def dN (l:List Pr):List Pr:=l.mergeSort p7
theorem FL {x y:Pr}:z6 x y=true ↔ (x.1<y.1\/(x.1=y.1/\x.2<y.2)):=by simp [z6]
theorem GP {x y:Pr}:p7 x y=true ↔ ¬ (y.1<x.1\/(y.1=x.1/\y.2<x.2)):=by rw [<- FL]; simp [p7]
theorem pL (l:List Pr):(dN l).Perm l:=List.mergeSort_perm l p7
theorem cX (l:List Pr):(dN l).Pairwise fun a b=>p7 a b=true :=
 List.pairwise_mergeSort (fun a b c h1 h2=>by rw [GP] at *; omega) (fun a b=>by
  by_cases h:p7 a b=true
  ·simp [h]
  ·have:p7 b a=true:=by rw [GP] at *; omega
   simp [this]) l
theorem srt_of {l S:List Pr} (h:S.Perm l) (hs:S.Pairwise fun a b=>p7 a b=true):S=dN l :=
 List.Perm.eq_of_pairwise (fun a b _ _ h1 h2=>by rw [GP] at *; exact Prod.ext (by omega) (by omega)) hs (cX l) (h.trans (pL l).symm)
def D2 (l:List Pr) (i:Nat) (row:List Pr):Prop:=row.Perm l/\(row.take i).Pairwise fun a b=>p7 a b=true
def WZ (l:List Pr) (i k:Nat) (row:List Pr):Prop:=∃ A x B R,row=A++x :: (B++R)/\A.length=k/\k + B.length=i/\(A++B).Pairwise (fun a b=>p7 a b=true)/\(∀ b∈B,z6 x b=true)/\row.Perm l
section
variable {l row:List Pr}
include l row
theorem ins_start {i:Nat} (h:D2 l i row) (hi:i<row.length):WZ l i i row:=by
 refine ⟨row.take i,row[i],[],row.drop (i + 1),?_,by simp; omega,by simp,by simpa using h.2,by simp,h.1⟩;simp
theorem r4 {i k:Nat} (h:WZ l i k row) (hx:k=0\/∃ a x,row[k - 1]?=some a/\row[k]?=some x/\¬ z6 x a=true):D2 l (i + 1) row:=by
 obtain ⟨A,x,B,R,rfl,h1,h2,h3,h4,h5⟩:=h;refine ⟨h5,?_⟩;have ht:(A++x :: (B++R)).take (i + 1)=A++x :: B:=by
  rw [show A++x :: (B++R)=(A++x :: B)++R from by simp,List.take_append_of_le_length (by simp; omega)];exact yx (by simp; omega)
 rw [ht];rw [List.pairwise_append] at h3 ⊢;obtain ⟨hA,hB,hAB⟩:=h3;have hAx:∀ a∈A,p7 a x=true:=by
  intro a ha;rcases hx with hk | ⟨z,y,g1,g2,g3⟩
  ·have:A=[]:=yM (by omega);rw [this] at ha;cases ha
  ·rcases List.eq_nil_or_concat A with e | ⟨A0,z',rfl⟩
   ·rw [e] at ha; cases ha
   have hk:k=A0.length + 1:=by rw [<- h1]; simp
   subst hk;simp at g1 g2;subst g1;subst g2;have hz:p7 z' x=true:=by
    simp only [p7];simpa using g3
   rw [List.concat_eq_append,List.pairwise_append] at hA;rw [List.concat_eq_append,yt] at ha;rcases ha with ha | ha
   ·have:=hA.2.2 a ha z' (by simp);rw [GP] at *
    omega
   ·simp at ha;rw [ha];exact hz
 have hxB:∀ b∈B,p7 x b=true:=fun b hb=>by
  have:=h4 b hb;rw [FL] at this;rw [GP];omega
 refine ⟨hA,List.pairwise_cons.2 ⟨hxB,hB⟩,fun a ha b hb=>?_⟩;rcases yf.1 hb with rfl | hb
 ·exact hAx a ha
 ·exact hAB a ha b hb
theorem ins_step {i k:Nat} (h:WZ l i (k + 1) row) {a x:Pr} (ha:row[k]?=some a) (hx:row[k + 1]?=some x) (da:z6 x a=true):WZ l i k ((row.set (k + 1) a).set k x):=by
 obtain ⟨A,y,B,R,rfl,h1,h2,h3,h4,h5⟩:=h;rcases List.eq_nil_or_concat A with e | ⟨A0,z,e⟩
 ·rw [e] at h1; simp at h1
 rw [List.concat_eq_append] at e;subst e;have hk:A0.length=k:=by simpa using h1
 subst hk;simp at ha hx;subst ha;subst hx;have e:((A0++[z]++y :: (B++R)).set (A0.length + 1) z).set A0.length y=A0++y :: ((z :: B)++R):=by
  simp [List.set_append]
 rw [e];refine ⟨A0,y,z :: B,R,rfl,rfl,by simp only [yE]; omega,by simpa using h3,?_,?_⟩
 ·intro b hb;rcases yf.1 hb with rfl | hb
  ·exact da
  ·exact h4 b hb
 ·refine List.Perm.trans ?_ h5;simp only [yU,List.cons_append,yP];exact (List.Perm.swap z y (B++R)).append_left A0
theorem ins_len {i k:Nat} (h:WZ l i k row):row.length=l.length/\k<=i/\i<row.length:=by
 obtain ⟨A,x,B,R,rfl,h1,h2,h3,h4,h5⟩:=h;refine ⟨h5.length_eq,by omega,?_⟩;simp;omega
theorem srt_done {i:Nat} (h:D2 l i row) (hi:row.length<=i):row=dN l:=by
 have h2:=h.2;rw [yx hi] at h2;exact srt_of h.1 h2
end
theorem srt_begin {l:List Pr}:D2 l 1 l:=⟨List.Perm.refl _,by cases l <;> simp⟩
section
open Go Go.RowKit Go.Sort
set_option maxHeartbeats 1000000
def J7:Go.Shelf.Ren:=⟨fun | 6=>82 | 15=>139 | 14=>138 | 28=>169 | 29=>170 | 20=>161 | 21=>162 | 22=>163 | 23=>164 | 24=>165 | 25=>166 | 26=>167 | 27=>168 | 46=>198 | 47=>199 | 48=>200 | 49=>201 | 50=>202 | 57=>220 | n=>n,fun | 22=>51 | 24=>63 | 25=>122 | 3=>3 | 39=>184 | 0=>0 | 53=>214 | 55=>200 | 4=>4 | 46=>208 | 45=>207 | 50=>143 | 5=>5 | 9=>9 | 66=>235 | 70=>239 | 76=>253 | 77=>254 | n=>n,fun n=>n⟩
theorem sortPr:SlLaysF0.n6 Tryz.prog J7 where
 mixed:=by kernel_rfl
 f6:=⟨Tryz.f82.name,by kernel_rfl,Tryz.func82.trans (congrArg some (by kernel_rfl))⟩
 f14:=⟨Tryz.f138.name,by kernel_rfl,Tryz.func138.trans (congrArg some (by kernel_rfl))⟩
 f15:=Tryz.func139.trans (congrArg some (by kernel_rfl))
 f20:=⟨Tryz.f161.name,by kernel_rfl,Tryz.func161.trans (congrArg some (by kernel_rfl))⟩
 f21:=⟨Tryz.f162.name,by kernel_rfl,Tryz.func162.trans (congrArg some (by kernel_rfl))⟩
 f22:=⟨Tryz.f163.name,by kernel_rfl,Tryz.func163.trans (congrArg some (by kernel_rfl))⟩
 f23:=⟨Tryz.f164.name,by kernel_rfl,Tryz.func164.trans (congrArg some (by kernel_rfl))⟩
 f24:=⟨Tryz.f165.name,by kernel_rfl,Tryz.func165.trans (congrArg some (by kernel_rfl))⟩
 f25:=⟨Tryz.f166.name,by kernel_rfl,Tryz.func166.trans (congrArg some (by kernel_rfl))⟩
 f26:=⟨Tryz.f167.name,by kernel_rfl,Tryz.func167.trans (congrArg some (by kernel_rfl))⟩
 f27:=⟨Tryz.f168.name,by kernel_rfl,Tryz.func168.trans (congrArg some (by kernel_rfl))⟩
 f28:=Tryz.func169.trans (congrArg some (by kernel_rfl))
 f29:=Tryz.func170.trans (congrArg some (by kernel_rfl))
 f46:=⟨Tryz.f198.name,by kernel_rfl,Tryz.func198.trans (congrArg some (by kernel_rfl))⟩
 f47:=Tryz.func199.trans (congrArg some (by kernel_rfl))
 f48:=Tryz.func200.trans (congrArg some (by kernel_rfl))
 f49:=⟨Tryz.f201.name,by kernel_rfl,Tryz.func201.trans (congrArg some (by kernel_rfl))⟩
 f50:=⟨Tryz.f202.name,by kernel_rfl,Tryz.func202.trans (congrArg some (by kernel_rfl))⟩
 f57:=⟨Tryz.f220.name,by kernel_rfl,Tryz.func220.trans (congrArg some (by kernel_rfl))⟩
 t0:=Tryz.underlying0
 a0:=Tryz.isAgg0
 z0:=Tryz.sizeOf0
 v0:=Tryz.zeroValue0
 t3:=Tryz.underlying3
 a3:=Tryz.isAgg3
 z3:=Tryz.sizeOf3
 v3:=Tryz.zeroValue3
 t4:=Tryz.underlying4
 a4:=Tryz.isAgg4
 z4:=Tryz.sizeOf4
 v4:=Tryz.zeroValue4
 t5:=Tryz.underlying5
 a5:=Tryz.isAgg5
 z5:=Tryz.sizeOf5
 v5:=Tryz.zeroValue5
 t9:=Tryz.underlying9
 a9:=Tryz.isAgg9
 z9:=Tryz.sizeOf9
 v9:=Tryz.zeroValue9
 t22:=Tryz.underlying51
 a22:=Tryz.isAgg51
 z22:=Tryz.sizeOf51
 v22:=Tryz.zeroValue51
 t25:=Tryz.underlying122
 a25:=Tryz.isAgg122
 z25:=Tryz.sizeOf122
 v25:=Tryz.zeroValue122
 t39:=Tryz.underlying184
 a39:=Tryz.isAgg184
 z39:=Tryz.sizeOf184
 v39:=Tryz.zeroValue184
 t45:=Tryz.underlying207
 a45:=Tryz.isAgg207
 z45:=Tryz.sizeOf207
 v45:=Tryz.zeroValue207
 t46:=Tryz.underlying208
 a46:=Tryz.isAgg208
 z46:=Tryz.sizeOf208
 v46:=Tryz.zeroValue208
 t50:=Tryz.underlying143
 a50:=Tryz.isAgg143
 z50:=Tryz.sizeOf143
 v50:=Tryz.zeroValue143
 t53:=Tryz.underlying214
 a53:=Tryz.isAgg214
 z53:=Tryz.sizeOf214
 v53:=Tryz.zeroValue214
 t55:=Tryz.underlying200
 a55:=Tryz.isAgg200
 z55:=Tryz.sizeOf200
 v55:=Tryz.zeroValue200
 t66:=Tryz.underlying235
 a66:=Tryz.isAgg235
 z66:=Tryz.sizeOf235
 v66:=Tryz.zeroValue235
 t70:=Tryz.underlying239
 a70:=Tryz.isAgg239
 z70:=Tryz.sizeOf239
 v70:=Tryz.zeroValue239
 t76:=Tryz.underlying253
 a76:=Tryz.isAgg253
 z76:=Tryz.sizeOf253
 v76:=Tryz.zeroValue253
 t77:=Tryz.underlying254
 a77:=Tryz.isAgg254
 z77:=Tryz.sizeOf254
 v77:=Tryz.zeroValue254
def QM (p:Pr):List Value:=[.int .i64 p.1,.int .i64 p.2]
theorem WN (x y:Pr):ltOf DS x y=z6 x y:=by
 unfold ltOf DS z6 Lib.compareInt;by_cases h1:x.1<y.1
 ·simp [h1]
 ·by_cases h2:y.1<x.1
  ·have:¬ x.1=y.1:=by omega
   simp [h1,h2,this]
  ·have:x.1=y.1:=by omega
   by_cases h3:x.2<y.2
   ·simp [h1,h2,this,h3]
   ·by_cases h4:y.2<x.2 <;> simp [h1,h2,this,h3,h4]
theorem swoP:SWO (ltOf DS) where
 irrefl x:=by rw [WN]; simp [z6]
 trans x y z h1 h2:=by rw [WN] at *; rw [FL] at *; omega
 ntrans x y z h1 h2:=by
  rw [WN] at *
  rw [<- Bool.not_eq_true,FL] at *
  omega
theorem totP (x y:Pr) (h1:ltOf DS x y=false) (h2:ltOf DS y x=false):x=y:=by
 rw [WN,<- Bool.not_eq_true,FL] at *
 exact Prod.ext (by omega) (by omega)
theorem srt_sh (l:List Pr):(l.toArray.toList.mergeSort fun x y=>!(ltOf DS) y x)=dN l:=by
 have:(fun x y=>!(ltOf DS) y x)=p7:=funext fun x=>funext fun y=>by rw [WN]; rfl
 rw [this];rfl
theorem repP {av:Av} {w:World}:∀ {l:List Pr} {us:List Value},MC av w (l.map XA).flatten us->us=(l.map QM).flatten
 | [],us,h=>by simpa [MC] using h
 | p :: r,us,h=>by
  simp only [yg,yz,XA,List.cons_append,yP,MC,bE] at h;obtain ⟨u,us1,rfl,rfl,_,u2,us2,rfl,rfl,_,h⟩:=h;rw [repP h];rfl
theorem repP_mk {av:Av} {w:World}:∀ (l:List Pr),MC av w (l.map XA).flatten (l.map QM).flatten
 | []=>rfl
 | p :: r=>by
  simp only [yg,yz,XA,QM,List.cons_append,yP,MC,bE];exact ⟨_,_,rfl,rfl,rfl,_,_,rfl,rfl,rfl,repP_mk r⟩
theorem Z3:∀ (l:List Pr) (j:Nat),(l.map QM).flatten[j]?=(l[j / 2]?).bind fun p=>(QM p)[j % 2]?
 | [],j=>by simp
 | p :: r,0=>rfl
 | p :: r,1=>rfl
 | p :: r,j + 2=>by
  have:=Z3 r j;have e1:(j + 2) / 2=j / 2 + 1:=by omega
  have e2:(j + 2) % 2=j % 2:=by omega
  rw [e1,e2];simpa [QM] using this
theorem flat_len (l:List Pr):(l.map QM).flatten.length=l.length * 2:=by
 induction l with
 | nil=>rfl
 | cons p r ih=>simp only [yg,yz,yl,ih,yE,QM,List.length_nil]; omega
theorem flat_at (l:List Pr) {j:Nat} (h:j<l.length * 2):(l.map QM).flatten[j]?=some ((flatK QM 2 l.toArray)[j]!):=by
 have hl:j / 2<l.length:=by omega
 rw [get_flatK _ _ _ _ (by simpa using h),Z3,y4 hl];have hm:j % 2<2:=Nat.mod_lt _ (by omega);have e:(l.toArray)[j / 2]! =l[j / 2]:=by simp [hl]
 rw [e];generalize j % 2=k at *
 match k,hm with
 | 0,_=>rfl
 | 1,_=>rfl
theorem heap_sort {w:World} {p:Nat} {cur:Array Value} {ty:TypeId} (hh:w.heap[p]?=some (.cells cur ty (0,0))) (n:Nat) (d:Array Pr) (os:Array Obj) :
  (sortWorldK QM 2 w p 0 n d os).heap[p]?=some (.cells (putCells id 0 (flatK QM 2 d) cur) ty (0,0)):=by
 have hp:p<w.heap.size:=(Array.getElem?_eq_some_iff.1 hh).1;show ((w.heap.modify p (onCells (putCells id 0 (flatK QM 2 d))))++os)[p]?=_;rw [Array.getElem?_append_left (by simpa [Array.size_modify] using hp),Array.getElem?_modify,if_pos rfl,hh];rfl
theorem keep_sort {w:World} {p:Nat} (n:Nat) (d:Array Pr) (os:Array Obj):ID (fun b=>b=p) w (sortWorldK QM 2 w p 0 n d os):=by
 refine ⟨rfl,rfl,rfl,?_,fun k hk hn=>?_⟩
 ·show w.heap.size<=((w.heap.modify p (onCells (putCells id 0 (flatK QM 2 d))))++os).size;simp
 ·show ((w.heap.modify p (onCells (putCells id 0 (flatK QM 2 d))))++os)[k]?=_;rw [Array.getElem?_append_left (by simpa [Array.size_modify] using hk),Array.getElem?_modify,if_neg (fun e=>hn e.symm)]
theorem put_take {cur:Array Value} {l:List Pr} (h:l.length * 2<=cur.size):(putCells id 0 (flatK QM 2 l.toArray) cur).toList.take (l.length * 2)=(l.map QM).flatten:=by
 refine List.ext_getElem? fun j=>?_
 rw [yO];split
 ·rename_i hj;rw [flat_at l hj,Array.getElem?_toList];unfold putCells;rw [Array.getElem?_mapIdx,yY (by omega)];have:0<=j/\j<0 + (flatK QM 2 l.toArray).size:=by simp; omega
  simp only [yA];rw [if_pos this];rfl
 ·rename_i hj;have:=flat_len l;rw [yW (by omega)]
theorem N0 (l:List Pr):(l.map XA).flatten.length=l.length * 2:=by
 induction l with
 | nil=>rfl
 | cons x r ih=>simp only [yg,yz,yl,ih,yE,XA,List.length_nil]; omega
theorem sort_row (l:List Pr) (hl:l.length<4611686018427387904):XU Tryz.prog 82 [.ref 0 0 2 0 l.length l.length,.fn 83 []] (some (.agg (l.map XA).flatten)) (.tup [],some (.agg ((dN l).map XA).flatten)):=by
 refine ⟨fun xs w=>by kernel_rfl,fun av w vs p cur ty sd hp hh hc hL hA=>?_⟩;have nn:p<w.heap.size:=(Array.getElem?_eq_some_iff.1 hh).1;simp only [mL,qB,NA,XG,Ix.row] at hA;obtain ⟨u,ta,rfl,⟨b,hb,_,c,_,_,rfl⟩,u2,us2,rfl,⟨us,rfl,od⟩,rfl⟩:=hA;have ua:p=b:=by simpa using hb
 subst ua;have hus':us=#[]:=Array.toList_eq_nil_iff.1 od;subst hus';have e1:=N0 l;rw [e1] at hL hc;have hE:=repP hL;have hH:HoldsK QM 2 w p 0 l.toArray:=fun j hj=>by
  have hj':j<l.length * 2:=by simpa using hj
  have h1:=flat_at l hj';rw [<- hE,yO,if_pos hj',Array.getElem?_toList] at h1;refine ⟨?_,?_⟩
  ·simp only [World.cell?,hh,yG,Option.isSome_none,yr,if_false];exact h1
  ·simp [World.frozen?,hh]
 have hs:=AnyQ.slices_SortFunc_total sortPr 2 Tryz.isAgg63 Tryz.sizeOf63 QM (fun _=>rfl) (fun x v hv=>by simp [QM] at hv; rcases hv with rfl | rfl <;> rfl) DS swoP 83 #[] p 0 c l.toArray w (fun args w=>by kernel_rfl) (fun m os dk _ x y=>clos_c x y _) hH nn (by simpa using hl) totP;rw [srt_sh] at hs;have ja:(dN l).length=l.length:=(pL l).length_eq;refine Calls.mono (h:=hs) ?_
 ·rintro e w' ⟨rfl,n,os,rfl⟩;have e2:=N0 (dN l);refine ⟨_,_,ty,rfl,⟨#[],rfl,rfl⟩,heap_sort hh n _ os,by simp [putCells],?_,keep_sort n _ os⟩;rw [e2,put_take (by omega)];exact repP_mk _
end
theorem prC_inj:∀ {l m:List Pr},(l.map XA).flatten=(m.map XA).flatten->l=m
 | [],[],_=>rfl
 | [],_ :: _,h=>by simp [XA] at h
 | _ :: _,[],h=>by simp [XA] at h
 | x :: r,y :: t,h=>by
  simp only [yg,yz,XA,List.cons_append,yP,List.cons.injEq,AV.int.injEq,true_and] at h;obtain ⟨h1,h2,h⟩:=h;rw [prC_inj h,show x=y from Prod.ext h1 h2]
def w8 (args:List AV) (S:Option AV) (l:List Pr):Prop:=l.length<4611686018427387904/\args=[.undef,.undef,.ref 0 0 2 0 l.length l.length,.fn 83 []]/\S=some (.agg (l.map XA).flatten)
open Classical in
noncomputable def Z5 (args:List AV) (S:Option AV):Option RV:=if h:∃ l,w8 args S l then some (.tup [],some (.agg ((dN h.choose).map XA).flatten)) else none
theorem sortX_eq {l:List Pr} (hl:l.length<4611686018427387904):Z5 [.undef,.undef,.ref 0 0 2 0 l.length l.length,.fn 83 []] (some (.agg (l.map XA).flatten))=some (.tup [],some (.agg ((dN l).map XA).flatten)):=by
 have h:∃ m,w8 [.undef,.undef,.ref 0 0 2 0 l.length l.length,.fn 83 []] (some (.agg (l.map XA).flatten)) m:=⟨l,hl,rfl,rfl⟩;unfold Z5;rw [dif_pos h];have e:h.choose=l:=by
  have:=h.choose_spec.2.2;injection this with this;injection this with this;exact (prC_inj this).symm
 rw [e]
theorem sortX_ok {O:AH} {args:List AV} {S:Option AV} {r:RV} (h:Z5 args S=some r):xD Tryz.prog O 82 args S r:=by
 unfold Z5 at h;split at h
 ·rename_i hh;obtain ⟨hl,h1,h2⟩:=hh.choose_spec;injection h with h;subst h;generalize hh.choose=l at *
  subst h1;subst h2;exact sort_row l hl
 ·cases h
noncomputable def DO:AB:=fun f args S=>if f=82 then Z5 args S else wH jA rA f args S
theorem mixedB:Tryz.prog.follows .mixedOrders=true:=by kernel_rfl
theorem T1 {O:AH} (f:Nat) (args:List AV) (S:Option AV) (r:RV) (h:DO f args S=some r):xD Tryz.prog O f args S r:=by
 unfold DO at h;split at h
 ·rename_i e;subst e;exact sortX_ok h
 ·exact mR mixedB allT_ok bldExt_ok h
def gP:Nat->Option zB
 | 81=>some SK
 | 85=>some AK
 | 30=>some LF
 | 31=>some JF
 | 5=>some iB
 | 6=>some WC
 | 9=>some TB
 | _=>none
theorem E1 (f:Nat) (c:zB) (h:gP f=some c):TA Tryz.prog f c:=by
 unfold gP at h;split at h
 ·injection h with h; subst h; exact GW
 ·injection h with h; subst h; exact FW
 ·injection h with h; subst h; exact SU
 ·injection h with h; subst h; exact AU
 ·injection h with h; subst h; exact qH
 ·injection h with h; subst h; exact ZJ
 ·injection h with h; subst h; exact XI
 ·cases h
abbrev UX (f:Nat) (args:List AV) (v:AV):Prop:=wH gP DO f args none=some (v,none)
theorem HJ {f:Nat} {args:List AV} {v:AV} (h:gA f args v) (hT:gP f=none:=by rfl) (hs:¬ f=82:=by decide):UX f args v:=evC_ext hT (by unfold DO; rw [if_neg hs]; exact h)
theorem ev_sort {l:List Pr} (hl:l.length<4611686018427387904):wH gP DO 82 [.undef,.undef,.ref 0 0 2 0 l.length l.length,.fn 83 []] (some (.agg (l.map XA).flatten))=some (.tup [],some (.agg ((dN l).map XA).flatten)) :=
 evC_ext rfl (by unfold DO; rw [if_pos rfl]; exact sortX_eq hl)
theorem MK {b:C} {r:RV} (n:Nat) (I:Nat->aA->Prop) (E:Ex->aA->Prop)
  (step:∀ i,i<=n->∀ s k,I i s->(i<n->∀ s',I (i + 1) s'->OI gP DO b s' k=some r)->(∀ e s',E e s'->k e s'=some r)->OI gP DO b s k=some r)
  (s:aA) (k:Ex->aA->Option RV) (h:I 0 s) (hk:∀ e s',E e s'->k e s'=some r):OI gP DO b s k=some r:=by
 have:∀ m i,i + m=n->∀ s,I i s->OI gP DO b s k=some r:=by
  intro m
  induction m with
  | zero=>intro i hi s h; exact step i (by omega) s k h (fun da=>absurd da (by omega)) hk
  | succ m ih=>intro i hi s h; exact step i (by omega) s k h (fun _ s' h'=>ih (i + 1) (by omega) s' h') hk
 exact this n 0 (by omega) s h
def RowP (A B:Nat) (l:List Pr) (v:AV) (s:aA):Prop:=∃ q N,v=.ref q N 2 0 l.length l.length/\(q=A\/q=B)/\s.mem q N=some (sA (l.map XA))
structure RoI (m0:Nat) (w r:SG) (t u:Int) (out:List JN) (s:aA):Prop where
 e2:(s.env 2).v=.ptr 2 m0 0
 e3:(s.env 3).v=.ptr 3 m0 0
 m2:s.mem 2 m0=some (pC w t)
 m3:s.mem 3 m0=some (pC r u)
 e6:RowP 17 59 (sC out) (s.env 6).v s
 e7:(s.env 7).v=.sl false (out.map gR)
 a7:(s.env 7).a=.ex\/(s.env 7).a=.own 63 3
 e8:(s.env 8).v=.mp 19 (m0 + 2)
 ob:s.obj 19 (m0 + 2)=some (OG ((sC out).map xM))
theorem strip_row (l:List (List AV)) (k:Nat):(sA l).map (qA.strip k)=sA l:=by
 unfold sA;rw [y0];rfl
theorem lS (l:List Pr):aE (sA (l.map XA)) 2 0 l.length=some (l.map XA):=by
 have:=GG (gG l) (GZ l);simpa using this
theorem kS:∀ {l:List Pr} {i:Nat} {p:Pr},l[i]?=some p->(sA (l.map XA))[i * 2]?=some ⟨.int .i64 p.1,.no⟩/\(sA (l.map XA))[i * 2 + 1]?=some ⟨.int .i64 p.2,.no⟩
 | [],_,_,h=>by simp at h
 | x :: r,0,p,h=>by
  simp at h;subst h;simp [FI,XA]
 | x :: r,i + 1,p,h=>by
  obtain ⟨h1,h2⟩:=kS (l:=r) (i:=i) (by simpa using h);rw [yg,FI];simp only [XA,yg,yn,List.cons_append,yP];rw [show (i + 1) * 2=i * 2 + 1 + 1 from by omega,show i * 2 + 1 + 1 + 1=(i * 2 + 1) + 1 + 1 from rfl];exact ⟨by simpa using h1,by simpa using h2⟩
theorem reachB_in {rv:RV} (m0:Nat) (w r:SG) (t u:Int) (path:List Pr) (i:Nat) (hi:i<=1000000) (qs:List Pr) (hq:qs.length<=1000000) (qb:Bool) (out:List JN) (ho:out.length<=1000000) (s:aA) (h:RoI m0 w r t u out s) (e9:(s.env 9).v=.int .i64 i) (e44:(s.env 44).v=.sl qb (qs.map XA)) (e45:(s.env 45).v=.int .i64 qs.length) (e46:(s.env 46).v=.int .i64 0) (k:Ex->aA->Option RV)
  (hk:∀ s',RoI m0 w r t u (qs.foldl (SF path i) out) s'->(s'.env 9).v=.int .i64 i->k (.exit 2) s'=some rv):OI gP DO KF s k=some rv:=by
 refine MK qs.length (fun j s=>RoI m0 w r t u ((qs.take j).foldl (SF path i) out) s/\(s.env 9).v=.int .i64 i/\(s.env 44).v=.sl qb (qs.map XA)/\(s.env 45).v=.int .i64 qs.length/\(s.env 46).v=.int .i64 j)
  (fun e s=>e=.exit 2/\RoI m0 w r t u (qs.foldl (SF path i) out) s/\(s.env 9).v=.int .i64 i) (fun j hj s k h ih hk=>?_) _ _ ⟨h,e9,e44,e45,e46⟩ (fun e s h=>by obtain ⟨rfl,h1,h2⟩:=h; exact hk _ h1 h2)
 obtain ⟨⟨e2,e3,m2,m3,⟨q,N,e6,ir,m6⟩,e7,a7,e8,ob⟩,e9,e44,e45,e46⟩:=h;refine tA ?_;by_cases da:j<qs.length
 ·have fa:(j:Int)<qs.length:=by omega
  have g1:(qs.map XA)[j]?=some (XA qs[j]):=by simp [da]
  have hw:=ZA (i:=j);have db:(qs.take (j + 1)).foldl (SF path i) out=SF path i ((qs.take j).foldl (SF path i) out) qs[j]:=by rw [<- yH da,List.foldl_append]; rfl
  have ja:((qs.take j).foldl (SF path i) out).length<=out.length + j:=by
   have h1:=wJ (qs.take j) (sC out);rw [<- DG path i] at h1;simp only [sC,yo,yC] at h1;omega
  rw [db] at ih;generalize (qs.take j).foldl (SF path i) out=out' at *
  generalize qs[j]=p at *
  have ne:=DT p (sC out');have bn:=kX (sC out');have q2:=els_bef out';have uc:(sC out').length=out'.length:=by simp [sC]
  have de:eB 16 (out'.length + 1)=true:=by rw [EA]; omega
  have nf:eB 8 (out'.length + 1)=true:=by rw [EA]; omega
  simp only [XA] at g1;by_cases c:p∈sC out'
  ·rw [if_pos c] at ne;rw [TZ c] at ih;simp [KF,-V,-y3,-y0,J,e8,e44,e45,e46,fa,g1,ob,XE,bn,NF,PI,AV.flat,AV.scal,ne,hw];refine ih da _ ⟨⟨?_,?_,?_,?_,⟨q,N,?_,ir,?_⟩,?_,?_,?_,?_⟩,?_,?_,?_,?_⟩
   ·simp [e2]
   ·simp [e3]
   ·simp [m2]
   ·simp [m3]
   ·simp [e6]
   ·rcases ir with rfl | rfl <;> simp [m6]
   ·simp [e7]
   ·simpa using a7
   ·simp [e8]
   ·simp [ob]
   ·simp [e9]
   ·simp [e44]
   ·simp [e45]
   ·simp
  ·rw [if_neg c] at ne;rw [gV c] at ih;have hse:=FT p (sC out') c;have sy:sC (out'++[(p,path++[p],(i:Int))])=sC out'++[p]:=by simp [sC]
   have ze:=lS (sC out');rw [uc] at ze e6;have hro:sA ((sC (out'++[(p,path++[p],(i:Int))])).map XA)=sA ((sC out').map XA++[[AV.int .i64 p.1,AV.int .i64 p.2]]):=by rw [sy,yS]; rfl
   rcases ir with rfl | rfl <;> rcases a7 with a7 | a7
   all_goals
    simp [KF,-V,-y3,-y0,J,e6,m6,ze,Cl.okMem,e7,a7,e8,e9,e44,e45,e46,fa,g1,ob,XE,bn,NF,PI,AV.flat,AV.scal,ne,hse,hw,uc,de,nf,q2];refine ih da _ ⟨⟨?_,?_,?_,?_,⟨59,s.next + 1 + 1 + 1 + 1,?_,.inr rfl,?_⟩,?_,.inr ?_,?_,?_⟩,?_,?_,?_,?_⟩
    ·simp [e2]
    ·simp [e3]
    ·simp [m2,pC]
    ·simp [m3,pC]
    ·simp [sy,uc]
    ·rw [hro];simp [strip_row]
    ·simp [gR]
    ·simp
    ·simp [e8]
    ·simp [sy]
    ·simp [e9]
    ·simp [e44]
    ·simp [e45]
    ·simp
 ·have fa:¬ (j:Int)<qs.length:=by omega
  rw [yx (by omega)] at e6 m6 e7 ob;simp [KF,-V,-y3,-y0,J,e45,e46,fa];refine hk _ _ ⟨rfl,⟨?_,?_,?_,?_,⟨q,N,?_,ir,?_⟩,?_,?_,?_,?_⟩,?_⟩
  ·simp [e2]
  ·simp [e3]
  ·simp [m2]
  ·simp [m3]
  ·simp [e6]
  ·simp [m6]
  ·simp [e7]
  ·simpa using a7
  ·simp [e8]
  ·simp [ob]
  ·simp [e9]
theorem l5 {w r:SG} {nx:Pr->List Pr} {rs:Pr->Int} (hF:IQ w r nx rs) {p:Pr} (hp:rN w.types.length r.types.length p) {rv:RV} {a1 a2:An} (s0:aA) (k:qA->aA->Option RV)
  (hk:∀ v s',RowP 17 59 (sC (DC nx p)) v s'->k ⟨.tup [v,.sl false ((DC nx p).map gR)],.no⟩ s'=some rv):H3 gP DO 81 [⟨.agg (OB w p.1),a1⟩,⟨.agg (OB r p.2),a2⟩] s0 k=some rv:=by
 refine sK SK rfl rfl ?_;have ab:∀ i,(aD nx p i).length<=1024:=fun i=>by
  have h1:=DM hp hF.rng i;have h2:w.types.length * r.types.length<=32 * 32:=Nat.mul_le_mul hF.wl hF.rl;omega
 simp [SK,-V,-y3,-y0,J,OB,sA,XE,AI,NF,PI,AV.flat,AV.scal,lG];refine MK 1024 (fun i s=>RoI s0.next w r p.1 p.2 (aD nx p i) s/\(s.env 9).v=.int .i64 i/\i<=(aD nx p i).length)
  (fun e s=>e=.exit 0/\RoI s0.next w r p.1 p.2 (DC nx p) s) (fun i hi s k h ih hk=>?_) _ _ ?_ (fun e s h=>?_)
 ·obtain ⟨hI,e9,tg⟩:=h;have hI':=hI;obtain ⟨e2,e3,m2,m3,⟨q,N,e6,ir,m6⟩,e7,a7,e8,ob⟩:=hI;refine tA ?_;simp only [pC] at m2 m3;have up:=ab i;have uc:(sC (aD nx p i)).length=(aD nx p i).length:=by simp [sC]
  rw [uc] at e6;by_cases da:i<(aD nx p i).length
  ·have fa:(i:Int)<(aD nx p i).length:=by omega
   obtain ⟨e0,ic⟩:∃ e0,(aD nx p i)[i]?=some e0:=⟨_,y4 da⟩;obtain ⟨g1,g2⟩:=kS (l:=sC (aD nx p i)) (i:=i) (p:=e0.1) (by simp [sC,ic]);have bi:=pI hp hF.rng i e0.1 (yN (yj ic));have wk:=HJ (hF.suc e0.1 bi);have tv:=hF.len e0.1 bi;have hw:=ZA (i:=i);have db:aD nx p (i + 1)=(nx e0.1).foldl (SF e0.2.1 i) (aD nx p i):=by rw [aD,ic]
   have rk:=ab (i + 1);have uo:i + 1<=(aD nx p (i + 1)).length:=by
    obtain ⟨t,ht⟩:=XN nx p i;rw [ht,yl];omega
   simp only [UX,WA] at wk;generalize nx e0.1=qs at *
   simp [iK,-V,-y3,-y0,J,-MA,-mA,wB,uB,PA,AA,e2,e3,e6,e9,m2,m3,m6,uc,da,fa,g1,g2,wk];refine reachB_in s0.next w r p.1 p.2 e0.2.1 i (by omega) qs (by omega) qs.isEmpty (aD nx p i) (by omega) _ ⟨?_,?_,?_,?_,⟨q,N,?_,ir,?_⟩,?_,?_,?_,?_⟩ ?_ ?_ ?_ ?_ _ (fun s' h' e9'=>?_)
   ·simp [e2]
   ·simp [e3]
   ·simp [m2,pC]
   ·simp [m3,pC]
   ·simp [e6,uc]
   ·simp [m6]
   ·simp [e7]
   ·simpa using a7
   ·simp [e8]
   ·simp [ob]
   ·simp [e9]
   ·simp
   ·simp
   ·simp
   ·rw [<- db] at h';obtain ⟨e2,e3,m2,m3,⟨q,N,e6,ir,m6⟩,e7,a7,e8,ob⟩:=h';simp [-V,-y3,-y0,J,e9',hw];refine ih (by omega) _ ⟨⟨?_,?_,?_,?_,⟨q,N,?_,ir,?_⟩,?_,?_,?_,?_⟩,?_,uo⟩
    ·simp [e2]
    ·simp [e3]
    ·simp [m2]
    ·simp [m3]
    ·simp [e6]
    ·simp [m6]
    ·simp [e7]
    ·simpa using a7
    ·simp [e8]
    ·simp [ob]
    ·simp
  ·have fa:¬ (i:Int)<(aD nx p i).length:=by omega
   rw [<- jR (nx:=nx) (p:=p) (i:=i) (by omega) hi] at hI';simp [iK,-V,-y3,-y0,J,e6,e9,uc,fa];obtain ⟨e2,e3,m2,m3,⟨q,N,e6,ir,m6⟩,e7,a7,e8,ob⟩:=hI';refine hk _ _ ⟨rfl,⟨?_,?_,?_,?_,⟨q,N,?_,ir,?_⟩,?_,?_,?_,?_⟩⟩
   ·simp [e2]
   ·simp [e3]
   ·simp [m2]
   ·simp [m3]
   ·simp [e6]
   ·simp [m6]
   ·simp [e7]
   ·simpa using a7
   ·simp [e8]
   ·simp [ob]
 ·refine ⟨⟨?_,?_,?_,?_,⟨17,s0.next + 1,?_,.inl rfl,?_⟩,?_,.inl ?_,?_,?_⟩,?_,?_⟩ <;> simp [pC,aD,sC,XA,gR,xM,sA]
 ·obtain ⟨rfl,hI⟩:=h;obtain ⟨e2,e3,m2,m3,⟨q,N,e6,ir,m6⟩,e7,a7,e8,ob⟩:=hI;simp [-V,-y3,-y0,J,e6,e7,WM,kQ,AN,AV.tupOk];exact hk _ _ ⟨q,N,rfl,ir,by simp [m6]⟩
theorem tZ (l:List Pr):(sA (l.map XA)).map (·.v)=(l.map XA).flatten:=by
 unfold sA;rw [y0];exact List.map_id _
theorem NY (l:List Pr):((l.map XA).flatten).all AV.free0=true:=by
 rw [List.all_flatten,List.all_map];simp [XA,AV.free0]
theorem rowP_free (l:List Pr):(sA (l.map XA)).all (fun x=>x.v.free0)=true:=by
 have h:=NY l;rw [<- tZ,List.all_map] at h;exact h
theorem rowP_len (l:List Pr):(sA (l.map XA)).length=l.length * 2:=by
 have:=HG (gG l);simpa using this
theorem srt_row (l:List Pr):((l.map XA).flatten).map (fun v=>(⟨v,KB v⟩:qA))=sA (l.map XA):=by
 unfold sA;refine yq fun v hv=>?_
 obtain ⟨c,hc,hv⟩:=List.mem_flatten.1 hv;obtain ⟨p,_,rfl⟩:=yy.1 hc;simp [XA] at hv;rcases hv with rfl | rfl <;> rfl
def W1 (b:Int) (nx:Pr->List Pr) (rs:Pr->Int) (p:Pr):AV:=if b=0 then if TG nx rs p=true then .tup [.sl false ((dN (sC (DC nx p))).map XA),.int .i64 0] else .tup [.sl true [],.int .i64 12] else .tup [.sl true [],.int .i64 b]
theorem jP {w r:SG} {e f i k:Int} (hw:jL w e) (hr:jL r f) {nx:Pr->List Pr} {rs:Pr->Int} (hF:iF e f w.types.length r.types.length i k=0->IQ w r nx rs) (nh:iF e f w.types.length r.types.length i k≠15):UX 30 [.agg (OB w i),.agg (OB r k)] (W1 (iF e f w.types.length r.types.length i k) nx rs (i,k)):=by
 have h1:=HJ (tR hw hr hF nh);refine aK LF rfl rfl ?_ (by rfl);unfold W1;simp only [UX,OB] at h1;by_cases c:iF e f w.types.length r.types.length i k=0
 case neg =>
  simp [LF,-V,-y3,-y0,J,OB,h1,c]
 by_cases c2:TG nx rs (i,k)=true
 case neg =>
  have eo:TG nx rs (i,k)=false:=by simpa using c2
  simp [LF,-V,-y3,-y0,J,OB,h1,c,eo]
 simp [LF,-V,-y3,-y0,J,OB,h1,c,c2];have hF:=hF c;obtain ⟨he,hf,hp⟩:=CN c;have ab:(DC nx (i,k)).length<=1024:=by
  have h1:=DM hp hF.rng 1024;have h2:w.types.length * r.types.length<=32 * 32:=Nat.mul_le_mul hF.wl hF.rl;unfold DC;omega
 have uc:(sC (DC nx (i,k))).length=(DC nx (i,k)).length:=by simp [sC]
 refine l5 hF hp _ _ fun v s' hv=>?_
 generalize sC (DC nx (i,k))=l at *
 obtain ⟨q,N,rfl,hq,hm⟩:=hv;have hso:=ev_sort (l:=l) (by omega);have q1:=tZ l;have q2:=rowP_free l;have q3:=rowP_len l;have q4:=NY (dN l);have q5:=srt_row (dN l);have q6:=lS (dN l);have ae:(dN l).length=l.length:=(pL l).length_eq;have q7:((dN l).map XA).flatten.length=l.length * 2:=by rw [N0,ae]
 rw [ae] at q6;generalize hR:sA (l.map XA)=R at *
 generalize hR':sA ((dN l).map XA)=R' at *
 generalize hC:(l.map XA).flatten=C0 at *
 generalize hC':((dN l).map XA).flatten=C1 at *
 simp [-V,-y3,-y0,J,-y5,-AV.free0,-KB,callK,zC,tF,bD,UG,Cl.okPtr,hm,q1,q2,q3,q4,q5,q6,q7,hso,Cl.okMem];exact ⟨rfl,rfl⟩
theorem rinb_ev (l:List Pr) (hl:l.length<=9223372036854775807) (p:Pr):gA 35 [.bl (l.map XA),.agg (XA p)] (.bool (decide (p∈l))):=by
 refine wA (c:=rK) rfl rfl ?_;simp [rK,-V,-y3,-y0,J,XA];refine xA l.length (fun i s=>(s.env 0).v=.bl (l.map XA)/\(s.env 3).v=.ptr 3 1 0/\s.mem 3 1=some [⟨.int .i64 p.1,.no⟩,⟨.int .i64 p.2,.no⟩]/\(s.env 5).v=.int .i64 i/\(decide (p∈l)=decide (p∈l.drop i)))
  (fun e s=>(e=.exit 0/\¬ p∈l)\/(e=.ret/\(s.env 4).v=.bool true/\p∈l)) (fun i hi s k h ih hk=>?_) _ _ ?_ (fun e s h=>?_)
 ·obtain ⟨e0,e3,m3,e5,hd⟩:=h;refine tA ?_;by_cases da:i<l.length
  ·have fa:(i:Int)<l.length:=by omega
   have g1:(l.map XA)[i]?=some (XA l[i]):=by simp [da]
   have hw:=ZA (i:=i);rw [yb da] at hd;generalize l[i]=q at *
   simp only [XA] at g1;by_cases c1:q.1=p.1
   ·by_cases c2:q.2=p.2
    ·have e:q=p:=Prod.ext c1 c2;simp [wE,-V,-y3,-y0,J,e0,e3,m3,e5,fa,g1,c1,c2,hw];refine hk _ _ (.inr ⟨rfl,by simp,?_⟩);simp [e] at hd;exact hd
    ·have e:¬ p=q:=fun h=>c2 (by rw [h])
     simp [wE,-V,-y3,-y0,J,e0,e3,m3,e5,fa,g1,c1,c2,hw];refine ih da _ ⟨?_,?_,?_,?_,?_⟩ <;> simp [e0,e3,m3]
     simpa [e] using hd
   ·have e:¬ p=q:=fun h=>c1 (by rw [h])
    simp [wE,-V,-y3,-y0,J,e0,e3,m3,e5,fa,g1,c1,hw];refine ih da _ ⟨?_,?_,?_,?_,?_⟩ <;> simp [e0,e3,m3]
    simpa [e] using hd
  ·have fa:¬ (i:Int)<l.length:=by omega
   simp [wE,-V,-y3,-y0,J,e0,e5,fa];refine hk _ _ (.inl ⟨rfl,?_⟩);rw [ye (by omega)] at hd;simpa using hd
 ·simp
 ·rcases h with ⟨rfl,h1⟩ | ⟨rfl,h1,h2⟩
  ·simp [-V,-y3,-y0,J,h1]
  ·simp [-V,-y3,-y0,J,h1,h2]
structure RdI (m0:Nat) (w r:SG) (out:List Pr) (s:aA):Prop where
 e4:(s.env 4).v=.ptr 4 m0 0
 e6:(s.env 6).v=.ptr 6 m0 0
 m4:s.mem 4 m0=some [⟨.sl w.nl (w.types.map eA),.no⟩]
 m6:s.mem 6 m0=some [⟨.sl r.nl (r.types.map eA),.no⟩]
 e9:RowP 16 55 out (s.env 9).v s
theorem A7 {rv:RV} (m0:Nat) (w r:SG) (i:Nat) (qs:List Pr) (hq:qs.length<=1000000) (qb:Bool) (out:List Pr) (ho:out.length<=1000000) (s:aA) (h:RdI m0 w r out s) (e10:(s.env 10).v=.int .i64 i) (e11:(s.env 11).v=.sl qb (qs.map XA)) (e12:(s.env 12).v=.int .i64 0) (k:Ex->aA->Option RV)
  (hk:∀ s',RdI m0 w r (qs.foldl cD out) s'->(s'.env 10).v=.int .i64 i->k (.exit 2) s'=some rv):OI gP DO HF s k=some rv:=by
 refine MK qs.length (fun j s=>RdI m0 w r ((qs.take j).foldl cD out) s/\(s.env 10).v=.int .i64 i/\(s.env 11).v=.sl qb (qs.map XA)/\(s.env 12).v=.int .i64 j)
  (fun e s=>e=.exit 2/\RdI m0 w r (qs.foldl cD out) s/\(s.env 10).v=.int .i64 i) (fun j hj s k h ih hk=>?_) _ _ ⟨h,e10,e11,e12⟩ (fun e s h=>by obtain ⟨rfl,h1,h2⟩:=h; exact hk _ h1 h2)
 obtain ⟨⟨e4,e6,m4,m6,⟨t,N,e9,ht,m9⟩⟩,e10,e11,e12⟩:=h;refine tA ?_;by_cases da:j<qs.length
 ·have fa:(j:Int)<qs.length:=by omega
  have g1:(qs.map XA)[j]?=some (XA qs[j]):=by simp [da]
  have hw:=ZA (i:=j);have db:(qs.take (j + 1)).foldl cD out=cD ((qs.take j).foldl cD out) qs[j]:=by rw [<- yH da,List.foldl_append]; rfl
  have ja:((qs.take j).foldl cD out).length<=out.length + j:=by
   have h1:=wJ (qs.take j) out;simp only [yC] at h1;omega
  rw [db] at ih;generalize (qs.take j).foldl cD out=out' at *
  generalize qs[j]=q at *
  have zb:=HJ (rinb_ev out' (by omega) q);have ze:=lS out';have de:eB 16 (out'.length + 1)=true:=by rw [EA]; omega
  simp only [UX,XA] at g1 zb;by_cases c:q∈out'
  ·rw [decide_eq_true c] at zb;rw [show cD out' q=out' from if_pos c] at ih;simp [HF,-V,-y3,-y0,J,e9,m9,ze,Cl.okMem,e11,e12,fa,g1,zb,hw];refine ih da _ ⟨⟨?_,?_,?_,?_,⟨t,N,?_,ht,?_⟩⟩,?_,?_,?_⟩
   ·simp [e4]
   ·simp [e6]
   ·simp [m4]
   ·simp [m6]
   ·simp [e9]
   ·simp [m9]
   ·simp [e10]
   ·simp [e11]
   ·simp
  ·rw [decide_eq_false c] at zb;rw [show cD out' q=out'++[q] from if_neg c] at ih;have hro:sA ((out'++[q]).map XA)=sA (out'.map XA++[[AV.int .i64 q.1,AV.int .i64 q.2]]):=by rw [yS]; rfl
   rcases ht with rfl | rfl
   all_goals
    simp [HF,-V,-y3,-y0,J,e9,m9,ze,Cl.okMem,e11,e12,fa,g1,zb,hw,de];refine ih da _ ⟨⟨?_,?_,?_,?_,⟨55,s.next + 1 + 1,?_,.inr rfl,?_⟩⟩,?_,?_,?_⟩
    ·simp [e4]
    ·simp [e6]
    ·simp [m4]
    ·simp [m6]
    ·simp
    ·rw [hro];simp
    ·simp [e10]
    ·simp [e11]
    ·simp
 ·have fa:¬ (j:Int)<qs.length:=by omega
  rw [yx (by omega)] at e9 m9;simp [HF,-V,-y3,-y0,J,e11,e12,fa];refine hk _ _ ⟨rfl,⟨?_,?_,?_,?_,⟨t,N,?_,ht,?_⟩⟩,?_⟩
  ·simp [e4]
  ·simp [e6]
  ·simp [m4]
  ·simp [m6]
  ·simp [e9]
  ·simp [m9]
  ·simp [e10]
theorem P1 {w r:SG} {nx:Pr->List Pr} {rs:Pr->Int} (hF:IQ w r nx rs) {p:Pr} (hp:rN w.types.length r.types.length p) {rv:RV} {a1 a2 a3 a4:An} (s0:aA) (k:qA->aA->Option RV)
  (hk:∀ v s',RowP 16 55 (sC (DC nx p)) v.v s'->k v s'=some rv):H3 gP DO 85 [⟨.agg (WA w),a1⟩,⟨.int .i64 p.1,a2⟩,⟨.agg (WA r),a3⟩,⟨.int .i64 p.2,a4⟩] s0 k=some rv:=by
 refine sK AK rfl rfl ?_;have ab:∀ i,(aD nx p i).length<=1024:=fun i=>by
  have h1:=DM hp hF.rng i;have h2:w.types.length * r.types.length<=32 * 32:=Nat.mul_le_mul hF.wl hF.rl;omega
 simp [AK,-V,-y3,-y0,J,WA,sA];refine MK 1024 (fun i s=>RdI s0.next w r (sC (aD nx p i)) s/\(s.env 10).v=.int .i64 i/\i<=(aD nx p i).length)
  (fun e s=>e=.exit 0/\RowP 16 55 (sC (DC nx p)) (s.env 9).v s) (fun i hi s k h ih hk=>?_) _ _ ?_ (fun e s h=>?_)
 ·obtain ⟨⟨e4,e6,m4,m6,⟨t,N,e9,ht,m9⟩⟩,e10,tg⟩:=h;refine tA ?_;have up:=ab i;have uc:(sC (aD nx p i)).length=(aD nx p i).length:=by simp [sC]
  rw [uc] at e9;by_cases da:i<(aD nx p i).length
  ·have fa:(i:Int)<(aD nx p i).length:=by omega
   obtain ⟨e0,ic⟩:∃ e0,(aD nx p i)[i]?=some e0:=⟨_,y4 da⟩;obtain ⟨g1,g2⟩:=kS (l:=sC (aD nx p i)) (i:=i) (p:=e0.1) (by simp [sC,ic]);have bi:=pI hp hF.rng i e0.1 (yN (yj ic));have wk:=HJ (hF.rsuc e0.1 bi);have tv:=hF.len e0.1 bi;have hw:=ZA (i:=i);have db:sC (aD nx p (i + 1))=(nx e0.1).foldl cD (sC (aD nx p i)):=by rw [aD,ic]; exact DG _ _ _ _
   have rk:=ab (i + 1);have uo:i + 1<=(aD nx p (i + 1)).length:=by
    obtain ⟨t,ht⟩:=XN nx p i;rw [ht,yl];omega
   simp only [UX,WA] at wk;generalize nx e0.1=qs at *
   simp [uK,-V,-y3,-y0,J,-MA,-mA,wB,uB,PA,AA,e4,e6,e9,e10,m4,m6,m9,uc,da,fa,g1,g2,wk];refine A7 s0.next w r i qs (by omega) qs.isEmpty (sC (aD nx p i)) (by omega) _ ⟨?_,?_,?_,?_,⟨t,N,?_,ht,?_⟩⟩ ?_ ?_ ?_ _ (fun s' h' lr=>?_)
   ·simp [e4]
   ·simp [e6]
   ·simp [m4]
   ·simp [m6]
   ·simp [e9,uc]
   ·simp [m9]
   ·simp [e10]
   ·simp
   ·simp
   ·rw [<- db] at h';obtain ⟨e4,e6,m4,m6,⟨t,N,e9,ht,m9⟩⟩:=h';simp [-V,-y3,-y0,J,lr,hw];refine ih (by omega) _ ⟨⟨?_,?_,?_,?_,⟨t,N,?_,ht,?_⟩⟩,?_,uo⟩
    ·simp [e4]
    ·simp [e6]
    ·simp [m4]
    ·simp [m6]
    ·simp [e9]
    ·simp [m9]
    ·simp
  ·have fa:¬ (i:Int)<(aD nx p i).length:=by omega
   have hE:DC nx p=aD nx p i:=jR (nx:=nx) (p:=p) (i:=i) (by omega) hi;simp [uK,-V,-y3,-y0,J,e9,e10,uc,fa];refine hk _ _ ⟨rfl,⟨t,N,?_,ht,?_⟩⟩
   ·rw [hE,uc]; simp [e9]
   ·rw [hE]; simp [m9]
 ·refine ⟨⟨?_,?_,?_,?_,⟨16,s0.next + 1,?_,.inl rfl,?_⟩⟩,?_,?_⟩ <;> simp [aD,sC,XA,sA]
 ·obtain ⟨rfl,⟨t,N,e9,ht,m9⟩⟩:=h;simp [-V,-y3,-y0,J,e9,WM,kQ,AN,AV.tupOk];exact hk _ _ ⟨t,N,rfl,ht,by simp [m9]⟩
theorem ins_at {l row:List Pr} {i k:Nat} (h:WZ l i k row):∃ x,row[k]?=some x:=by
 have:=ins_len h;exact ⟨row[k]'(by omega),y4 _⟩
theorem rins_in {rv:RV} {l row:List Pr} {i:Nat} (hl:l.length<=1000000) (h0:WZ l i i row) {t N:Nat} (s:aA) (e8:(s.env 8).v=.ref t N 2 0 l.length l.length) (m8:s.mem t N=some (sA (row.map XA))) (e9:(s.env 9).v=.int .i64 i) (e10:(s.env 10).v=.int .i64 i) (k:Ex->aA->Option RV)
  (hk:∀ s' xm,D2 l (i + 1) xm->(s'.env 8).v=.ref t N 2 0 l.length l.length->s'.mem t N=some (sA (xm.map XA))->(s'.env 9).v=.int .i64 i->k (.exit 2) s'=some rv):OI gP DO QD s k=some rv:=by
 refine MK i (fun j s=>∃ k row,j + k=i/\WZ l i k row/\(s.env 8).v=.ref t N 2 0 l.length l.length/\s.mem t N=some (sA (row.map XA))/\(s.env 9).v=.int .i64 i/\(s.env 10).v=.int .i64 k)
  (fun e s=>e=.exit 2/\∃ xm,D2 l (i + 1) xm/\(s.env 8).v=.ref t N 2 0 l.length l.length/\s.mem t N=some (sA (xm.map XA))/\(s.env 9).v=.int .i64 i) (fun j hj s kk h ih hk=>?_) _ _ ⟨i,row,by omega,h0,e8,m8,e9,e10⟩ (fun e s h=>by obtain ⟨rfl,xm,h1,h2,h3,h4⟩:=h; exact hk _ _ h1 h2 h3 h4)
 obtain ⟨k,row,hjk,hI,e8,m8,e9,e10⟩:=h;refine tA ?_;by_cases xj:k=0
 ·subst xj;simp [QD,-V,-y3,-y0,J,e10];exact hk _ _ ⟨rfl,row,r4 hI (.inl rfl),by simp [e8],by simp [m8],by simp [e9]⟩
 obtain ⟨m,hm⟩:∃ m,k=m + 1:=⟨k - 1,by omega⟩;obtain ⟨hrl,hki,tg⟩:=ins_len hI;obtain ⟨x,hx⟩:=ins_at hI;obtain ⟨a,ha⟩:∃ a,row[m]?=some a:=⟨row[m]'(by omega),y4 _⟩;obtain ⟨x1,x2⟩:=kS hx;obtain ⟨a1,a2⟩:=kS ha;have jx:(0:Int)<k:=by omega
 have ai:0<k:=by omega
 have uk:IntKind.i64.wrap ((k:Int) - 1)=(m:Int):=by rw [IntWalk.i64_in _ (by omega)]; omega
 have zh:k<l.length:=by omega
 have wo:m<l.length:=by omega
 have hq1:=gG row;have gx:(row.map XA)[k]?=some (XA x):=by simp [hx]
 have ga:(row.map XA)[m]?=some (XA a):=by simp [ha]
 have l1:=cO hq1 gx;have l2:=cO hq1 ga;have hrm:(row.map XA).length=l.length:=by simp [hrl]
 have s1:=fun b=>NM hq1 (k:=k) (by omega) (c:=XA a) rfl b
 have s2:=fun b=>NM (l:=(row.map XA).set k (XA a)) (sz:=2) (by rw [<- List.map_set]; exact gG _) (k:=m) (by simp; omega) (c:=XA x) rfl b
 have oi:(((row.map XA).set k (XA a)).set m (XA x))=((row.set k a).set m x).map XA:=by rw [List.map_set,List.map_set]
 rw [oi] at s2;have XM:z6 x a=true->WZ l i m ((row.set k a).set m x):=fun da=>by
  subst hm;exact ins_step hI ha hx da
 have hexit:¬ z6 x a=true->D2 l (i + 1) row:=fun da=>r4 hI (.inr ⟨a,x,by rw [hm]; exact ha,hx,da⟩)
 simp only [XA] at l1 l2 s1 s2;generalize hR2:sA (((row.set k a).set m x).map XA)=R2 at *
 generalize sg:sA ((row.map XA).set k [AV.int .i64 a.1,AV.int .i64 a.2])=R1 at *
 generalize ki:sA (row.map XA)=R0 at *
 by_cases c:z6 x a=true
 ·have hI2:=XM c;rw [FL] at c;by_cases c1:x.1<a.1
  ·simp [QD,-V,-y3,-y0,J,-MA,-mA,wB,uB,PA,AA,e8,m8,e9,e10,jx,ai,uk,zh,wo,x1,x2,a1,a2,l1,l2,s1,s2,c1];refine ih (by omega) _ ⟨m,_,by omega,hI2,?_,?_,?_,?_⟩
   ·simp [e8]
   ·rw [hR2]; simp
   ·simp [e9]
   ·simp
  ·have c2:x.1=a.1:=by omega
   have c3:x.2<a.2:=by omega
   simp [QD,-V,-y3,-y0,J,-MA,-mA,wB,uB,PA,AA,e8,m8,e9,e10,jx,ai,uk,zh,wo,x1,x2,a1,a2,l1,l2,s1,s2,c1,decide_eq_true c2,c3];refine ih (by omega) _ ⟨m,_,by omega,hI2,?_,?_,?_,?_⟩
   ·simp [e8]
   ·rw [hR2]; simp
   ·simp [e9]
   ·simp
 ·have hS:=hexit c;rw [FL] at c;have c1:¬ x.1<a.1:=by omega
  by_cases c2:x.1=a.1
  ·have c3:¬ x.2<a.2:=by omega
   simp [QD,-V,-y3,-y0,J,-MA,-mA,wB,uB,PA,AA,e8,m8,e9,e10,jx,ai,uk,zh,wo,x1,x2,a1,a2,c1,decide_eq_true c2,c3];exact hk _ _ ⟨rfl,row,hS,by simp [e8],by simp [m8,ki],by simp [e9]⟩
  ·simp [QD,-V,-y3,-y0,J,-MA,-mA,wB,uB,PA,AA,e8,m8,e9,e10,jx,ai,uk,zh,wo,x1,x2,a1,a2,c1,c2];exact hk _ _ ⟨rfl,row,hS,by simp [e8],by simp [m8,ki],by simp [e9]⟩
theorem A1 {w r:SG} {e f i k:Int} (hw:jL w e) (hr:jL r f) {nx:Pr->List Pr} {rs:Pr->Int} (hF:iF e f w.types.length r.types.length i k=0->IQ w r nx rs):UX 31 [.agg (OB w i),.agg (OB r k)] (W1 (iF e f w.types.length r.types.length i k) nx rs (i,k)):=by
 have h1:=HJ (NW hw hr hF);refine aK JF rfl rfl ?_ (by rfl);unfold W1;simp only [UX,OB] at h1;by_cases c:iF e f w.types.length r.types.length i k=0
 case neg =>
  simp [JF,-V,-y3,-y0,J,OB,h1,c]
 by_cases c2:TG nx rs (i,k)=true
 case neg =>
  have eo:TG nx rs (i,k)=false:=by simpa using c2
  simp [JF,-V,-y3,-y0,J,OB,h1,c,eo]
 simp [JF,-V,-y3,-y0,J,OB,h1,c,c2];have hF:=hF c;obtain ⟨he,hf,hp⟩:=CN c;have ab:(DC nx (i,k)).length<=1024:=by
  have h1:=DM hp hF.rng 1024;have h2:w.types.length * r.types.length<=32 * 32:=Nat.mul_le_mul hF.wl hF.rl;unfold DC;omega
 have uc:(sC (DC nx (i,k))).length=(DC nx (i,k)).length:=by simp [sC]
 refine P1 hF hp _ _ fun v s' hv=>?_
 generalize sC (DC nx (i,k))=l at *
 obtain ⟨v,a0⟩:=v;obtain ⟨q,N,hv,hq,hm⟩:=hv;dsimp only at hv;subst hv;simp [-V,-y3,-y0,J,callK];refine MK l.length (fun j s=>∃ row,D2 l (j + 1) row/\(s.env 8).v=.ref q N 2 0 l.length l.length/\s.mem q N=some (sA (row.map XA))/\(s.env 9).v=.int .i64 ((j + 1:Nat):Int))
  (fun e s=>e=.exit 0/\(s.env 8).v=.ref q N 2 0 l.length l.length/\s.mem q N=some (sA ((dN l).map XA))) (fun j hj s kk h ih hk=>?_) _ _ ⟨l,srt_begin,by simp,by simp [hm],by simp⟩ (fun e s h=>?_)
 ·obtain ⟨row,hS,e8,m8,e9⟩:=h;have hrl:row.length=l.length:=hS.1.length_eq;refine tA ?_;by_cases da:j + 1<l.length
  ·have fa:((j + 1:Nat):Int)<l.length:=by omega
   have hw:IntKind.i64.wrap (((j + 1:Nat):Int) + 1)=((j + 1 + 1:Nat):Int):=ZA (by omega);obtain ⟨z,hz⟩:∃ z:Int,z=((j + 1:Nat):Int):=⟨_,rfl⟩;rw [<- hz] at e9 fa hw;simp [bJ,-V,-y3,-y0,J,e8,e9,fa];refine rins_in (t:=q) (N:=N) (by omega) (ins_start hS (by omega)) _ (by simp [e8]) (by simp [m8]) (by simp [e9,hz]) (by simp [hz]) _ (fun s' xm h1 h2 h3 h4=>?_);rw [<- hz] at h4;simp [-V,-y3,-y0,J,h4,hw];exact ih (by omega) _ ⟨xm,h1,by simp [h2],by simp [h3],by simp⟩
  ·have fa:¬ ((j + 1:Nat):Int)<l.length:=by omega
   obtain ⟨z,hz⟩:∃ z:Int,z=((j + 1:Nat):Int):=⟨_,rfl⟩;rw [<- hz] at e9 fa;rw [srt_done hS (by omega)] at m8;simp [bJ,-V,-y3,-y0,J,e8,e9,fa];exact hk _ _ ⟨rfl,by simp [e8],by simp [m8]⟩
 ·obtain ⟨rfl,e8,m8⟩:=h;have q6:=lS (dN l);rw [(pL l).length_eq] at q6;generalize sA ((dN l).map XA)=R at *
  simp [-V,-y3,-y0,J,e8,m8,q6]
theorem OQ:gA 19 [] (.bool true):=awk_knows.run 3000 (by kernel_rfl)
theorem asc_of:∀ (l:List (Int × ByteArray)) (b:Int) (seen:List ByteArray),TC b seen l=true->(∀ x∈l,b<x.1)/\l.Pairwise fun x y=>x.1<y.1
 | [],_,_,_=>by simp
 | (n,s) :: r,b,seen,h=>by
  simp only [TC,y7] at h;obtain ⟨⟨⟨h1,_⟩,_⟩,h2⟩:=h;have hb:b<n:=by unfold GQ at h1; simp at h1; omega
  obtain ⟨g1,g2⟩:=asc_of r n _ h2;refine ⟨fun x hx=>?_,List.pairwise_cons.2 ⟨fun y hy=>g1 y hy,g2⟩⟩;rcases yf.1 hx with rfl | hx
  ·exact hb
  ·have:=g1 x hx; omega
theorem good_asc {x:fA} (h:bB x=true):x.mems.Pairwise fun f g=>f.id<g.id:=by
 unfold bB at h;rw [y7,y7] at h;obtain ⟨_,h1,h2⟩:=h;have main:∀ rc,dH rc x.mems=true->x.mems.Pairwise fun f g=>f.id<g.id:=fun rc h=>by
  unfold dH at h;simp only [y7] at h;have:=(asc_of _ _ _ h.2.2.1).2;rw [List.pairwise_map] at this;exact this
 by_cases k5:x.kind=5
 ·simp [PH,k5] at h1; exact main true h1.2
 by_cases k6:x.kind=6
 ·simp [PH,k6] at h1; exact main false h1.2
 have e:x.left.mems=x.mems:=by
  unfold fA.left;simp only [if_neg k5,if_neg k6]
  repeat' split
  all_goals rfl
 have hm:aB x.left.mems []=true:=by simp only [fA.same,y7] at h2; exact h2.2
 rw [e] at hm;cases hx:x.mems with
 | nil=>exact List.Pairwise.nil
 | cons a r=>rw [hx] at hm; simp [aB] at hm
theorem N2:∀ {l:List BB},l.Pairwise (fun f g=>f.id<g.id)->∀ f∈l,∀ g∈l,f.id=g.id->f=g
 | [],_,f,hf,_,_,_=>by cases hf
 | a :: r,h,f,hf,g,hg,e=>by
  obtain ⟨h1,h2⟩:=List.pairwise_cons.1 h;rcases yf.1 hf with hf' | hf' <;> rcases yf.1 hg with hg' | hg'
  ·rw [hf',hg']
  ·have:=h1 g hg'; rw [<- hf'] at this; omega
  ·have:=h1 f hf'; rw [<- hg'] at this; omega
  ·exact N2 h2 f hf' g hg' e
theorem wV {l:List BB} (h:l.Pairwise fun f g=>f.id<g.id) {f:BB} (hf:f∈l):0<=xB l f.id/\l[(xB l f.id).toNat]?=some f:=by
 have h0:0<=xB l f.id:=by
  have h1:=nN (fun x:BB=>decide (x.id=f.id)) l;rw [List.any_eq_true.2 ⟨f,hf,by simp⟩] at h1;exact of_decide_eq_true h1
 obtain ⟨g,hg,he⟩:=mN (fun x:BB=>decide (x.id=f.id)) l (by unfold xB at h0; omega);have he:g.id=f.id:=by simpa using he
 have:=N2 h g (yj hg) f hf he;subst this;exact ⟨h0,hg⟩
theorem sym_own {l:List IS} {f:IS} (hf:f∈l):0<=wG l f.id:=by
 have h1:=nN (fun x:IS=>decide (x.id=f.id)) l;rw [List.any_eq_true.2 ⟨f,hf,by simp⟩] at h1;exact of_decide_eq_true h1
theorem allP_self {x:fA} (h:x.mems.Pairwise fun f g=>f.id<g.id):QL x x=true:=by
 unfold QL;rw [y7,y5,y5];exact ⟨fun s hs=>decide_eq_true (sym_own hs),fun m hm=>decide_eq_true (wV h hm).1⟩
theorem next_self {x:fA} (h:x.mems.Pairwise fun f g=>f.id<g.id) {q:Pr} (hq:q∈jM x x):q.1=q.2:=by
 rw [jM,if_pos rfl,CL] at hq;rcases hq with hq | hq
 ·cases hq
 rw [yt,yt] at hq;rcases hq with (hq | hq) | hq
 ·unfold wN at hq;rw [List.mem_flatMap] at hq;obtain ⟨f,hf,hq⟩:=hq;obtain ⟨h0,h1⟩:=wV h hf;rw [TX,if_pos h0,h1] at hq;simp at hq;subst hq;rfl
 ·unfold PX at hq;split at hq
  ·simp at hq; subst hq; rfl
  ·cases hq
 ·unfold mQ at hq;split at hq
  ·simp at hq; subst hq; rfl
  ·cases hq
theorem n5 {mns:BB->BB->Bool} {xs:List BB} (h:xs.Pairwise fun f g=>f.id<g.id) (hm:∀ f∈xs,f.has=true->mns f f=true):∀ ys:List BB,(∀ g∈ys,g∈xs)->GN mns xs ys=0
 | [],_=>rfl
 | g :: r,hs=>by
  have hg:=hs g (by simp);have ih:=n5 h hm r fun x hx=>hs x (by simp [hx])
  obtain ⟨h0,h1⟩:=wV h hg;rw [GN,if_pos h0,h1];by_cases c:g.has=true
  ·simp only [if_pos c,if_pos (hm g hg c),ih]
  ·simp only [if_neg c,ih]
theorem d6.asc {S:List fA} (h:d6 S) {x:fA} (hx:x∈S):x.mems.Pairwise fun f g=>f.id<g.id:=by
 obtain ⟨j,hj,rfl⟩:=yB hx;exact good_asc (aH (MF h.val j hj)).1
theorem rd_self {x:fA} {v:Vl} {f:Int->Vl->Bool} (h:DQ f x v=true):FN x x v=true:=by
 unfold FN;rw [decide_eq_true rfl,Bool.true_and];unfold DQ at h;by_cases k1:x.kind=1
 ·simp [k1]
 by_cases k2:x.kind=2
 ·simpa [k1,k2] using h
 by_cases k3:x.kind=3
 ·simpa [k1,k2,k3] using h
 by_cases k4:x.kind=4
 ·simp [k4] at h ⊢;exact .inl h
 ·simp [k2,k3,k4]
theorem rsn_self {S:List fA} (h:d6 S) {x:fA} (hx:x∈S):F7 (mnsP S S) S x x=0:=by
 have ha:=h.asc hx;have zd:=allP_self ha;unfold F7;rw [if_neg (by simp)];by_cases k2:x.kind=2
 ·rw [if_pos k2,if_neg (by omega)]
 rw [if_neg k2];by_cases k3:x.kind=3\/x.kind=7
 ·rw [if_pos k3,if_neg (by omega)]
 rw [if_neg k3];by_cases k8:x.kind=8
 ·rw [if_pos k8,if_neg (by omega)]
 rw [if_neg k8];by_cases k4:x.kind=4
 ·rw [if_pos k4,if_pos (.inr zd)]
 rw [if_neg k4];by_cases k6:x.kind=6
 ·rw [if_pos k6,if_pos (.inr zd)]
 rw [if_neg k6];by_cases k5:x.kind=5
 ·rw [if_pos k5];have hr:=n5 (mns:=mnsP S S) ha (fun f hf hh=>by
   have hp:=G3 h.err hx hf hh;have w:=(TD h.val x hx).mems f hf;have g:=sL w.1 w.2;unfold KH at hp;rw [jG,g,y7] at hp;have hp:=hp.2;simp only [y7] at hp;unfold mnsP;rw [rd_self hp.2,Vl.same_refl];rfl) x.mems fun g hg=>hg
  rw [CM,if_pos hr,if_neg];simp only [List.any_eq_true,not_exists,not_and];intro f hf;simp [j6,(wV ha hf).1]
 ·rw [if_neg k5]
theorem cS {S:List fA} (h:d6 S) {t:Int} (h0:0<=t) (h1:t<S.length):∀ q∈sC (DC (UO S S) (t,t)),(0<=q.1/\q.1<S.length)/\q.1=q.2:=by
 have hF:=simF h h;refine UP (P:=fun q=>(0<=q.1/\q.1<S.length)/\q.1=q.2) ⟨⟨h0,h1⟩,rfl⟩ (fun p hp q hq=>?_) 1024;obtain ⟨a,b⟩:=p;obtain ⟨⟨p0,p1⟩,p2⟩:=hp;dsimp only at p0 p1 p2;subst p2;have hr:=hF.rng (a,a) ⟨p0,p1,p0,p1⟩ q hq;exact ⟨⟨hr.1,hr.2.1⟩,next_self (h.asc (bM p0 p1)) hq⟩
theorem fine_self {S:List fA} (h:d6 S) {t:Int} (h0:0<=t) (h1:t<S.length):TG (UO S S) (rsP S S) (t,t)=true:=by
 unfold TG;rw [y5];intro q hq;obtain ⟨⟨q0,q1⟩,q2⟩:=cS h h0 h1 q hq;obtain ⟨a,b⟩:=q;dsimp only at q0 q1 q2;subst q2;exact decide_eq_true (rsn_self h (bM q0 q1))
theorem draftS_ps {l:List dC} (h:oks l):0<(uA l).length:=by
 have:=h.1;simp [uA];omega
theorem I3 {dn cn:Bool} {l:List dC} {cs:List xU} {T U:Int} (h:nZ l cs T U):UX 5 [.agg (aM dn l cn cs T U)] (.bool true):=by
 have jk:=HJ OQ;obtain ⟨r,hr,ak⟩:=of20_ev (dn:=dn) (cn:=cn) h;refine aK iB rfl rfl ?_ (by rfl);rcases hr with rfl | ⟨l1,l2,t1,u1,o1,o2,zb,rfl⟩
 ·have ti:=HJ ak;simp only [UX,aM,PQ] at ti jk ⊢;simp [iB,-V,-y3,-y0,J,ti,jk]
 ·have ti:=HJ ak;have s1:=NK o1;have s2:=NK o2;have hF:=simF (bR o1) (bR o2);have hb:iF 0 0 (uA l1).length (uA l2).length t1 u1=0:=OP ⟨zb.1,zb.2.1⟩ ⟨zb.2.2.1,zb.2.2.2⟩;have f1:=HJ (tR s1 s2 (i:=t1) (k:=u1) (fun _=>hF) (by dsimp only; rw [hb]; decide));have f2:=HJ (NW s1 s2 (i:=t1) (k:=u1) (fun _=>hF));have f3:=jP s1 s2 (i:=t1) (k:=u1) (fun _=>hF) (by dsimp only; rw [hb]; decide);have f4:=A1 s1 s2 (i:=t1) (k:=u1) (fun _=>hF);have f5:=HJ (pZ s1 s2 (i:=t1) (k:=u1) (fun _=>hF));have f6:=HJ (rblame_ev s1 s2 (i:=t1) (k:=u1) (fun _=>hF));have ab:(DC (UO (uA l1) (uA l2)) (t1,u1)).length<=1024:=zN zb hF.rng hF.wl hF.rl;have uc:(dN (sC (DC (UO (uA l1) (uA l2)) (t1,u1)))).length=(DC (UO (uA l1) (uA l2)) (t1,u1)).length:=by rw [(pL _).length_eq]; simp [sC]
  have p0:=HJ (wR [] (by simp) true true);have p1:=HJ (wR (dN (sC (DC (UO (uA l1) (uA l2)) (t1,u1)))) (by omega) false false);have kv:=xV (UO (uA l1) (uA l2)) (rsP (uA l1) (uA l2)) (t1,u1);have hway:∀ e,blm (UO (uA l1) (uA l2)) (rsP (uA l1) (uA l2)) (t1,u1)=some e->e.2.1.length<=1024:=fun e h=>by
   obtain ⟨k,hk⟩:=List.mem_iff_getElem?.1 (List.mem_of_find?_eq_some h);have h1:=B1 (zV (UO (uA l1) (uA l2)) (t1,u1) 1024) k e hk;have h2:=(y9.1 hk).1;omega
  dsimp only at f1 f2 f3 f4 f5 f6;rw [hb] at f1 f2 f3 f4 f5 f6;cases eg:blm (UO (uA l1) (uA l2)) (rsP (uA l1) (uA l2)) (t1,u1) with
  | none =>
   rw [kv.1 eg] at f1 f2;simp only [eg,W1,kv.1 eg,if_true] at f3 f4 f5 f6;simp only [UX,WA,aM,OB,RX] at f1 f2 f3 f4 f5 f6 ti jk p0 p1 ⊢;simp only [yn] at p0;clear hway kv eg hF;generalize dN (sC (DC (UO (uA l1) (uA l2)) (t1,u1)))=L at *
   generalize uA l1=S1 at *
   generalize uA l2=S2 at *
   simp at f1 f2;simp [iB,-V,-y3,-y0,J,ti,jk,f1,f2,f3,f4,f5,f6,p0,p1]
  | some e =>
   have hW:=hway e eg;have hnf:TG (UO (uA l1) (uA l2)) (rsP (uA l1) (uA l2)) (t1,u1)=false:=by
    cases hf:TG (UO (uA l1) (uA l2)) (rsP (uA l1) (uA l2)) (t1,u1) with
    | false=>rfl
    | true=>rw [kv.2 hf] at eg; cases eg
   have p2:=HJ (wR e.2.1 (by omega) false false);rw [hnf] at f1 f2;simp only [eg,W1,hnf,if_true] at f3 f4 f5 f6;simp only [UX,WA,aM,OB,RX] at f1 f2 f3 f4 f5 f6 ti jk p0 p2 ⊢;simp only [yn] at p0;obtain ⟨q,P,z⟩:=e;dsimp only at f5 f6 p2;generalize rsP (uA l1) (uA l2) q=rq at *
   clear hway kv eg hF hW p1 uc ab hnf;generalize uA l1=S1 at *
   generalize uA l2=S2 at *
   simp at f1 f2 f3 f4;simp [iB,-V,-y3,-y0,J,ti,jk,f1,f2,f3,f4,f5,f6,p0,p2]
theorem selfF1_ev {rv:RV} (q:Pr) (s:aA) (a:An) (k:qA->aA->Option RV) (hk:∀ y s',y.v=.bool (!decide (q.1=q.2))->dV s s'->k y s'=some rv):H3 jA rA 37 [⟨.agg (XA q),a⟩] s k=some rv:=by
 refine sK dE rfl rfl ?_;simp [dE,-V,-y3,-y0,J,XA,WM,kQ,AN];refine hk _ _ rfl ⟨rfl,?_,fun t n hn=>?_⟩
 ·dsimp only; omega
 ·have:¬ n=s.next:=by omega
  simp [this]
theorem H7 (l:List Pr) (hl:l.length<=2000) (b:Bool):gA 36 [.sl b (l.map XA),.fn 37 []] (.bool (l.any fun q=>!decide (q.1=q.2))):=by
 refine wA (c:=dD) rfl rfl ?_;simp [dD,-V,-y3,-y0,J,kN];refine gidx_ev l hl (fun q=>!decide (q.1=q.2)) 37 [] b (fun q hq s k a h1 h2 h3=>selfF1_ev q s a k h3) _ (fun y s' hy hq=>?_);obtain ⟨r1,r2,r3⟩:=hq;have ha:=nN (fun q:Pr=>!decide (q.1=q.2)) l;simp [-V,-y3,-y0,J,hy,r1,ha]
theorem self20_ev {dn:Bool} {l:List dC} (hx:∀ x∈l,x.ok) {t:Int} (mb:0<=t) (za:t<=255):UX 6 [.agg (mF dn l),.int .u8 t] (.bool true):=by
 have jk:=HJ OQ;refine aK WC rfl rfl ?_ (by rfl);rcases U0 (dn:=dn) hx with ⟨ho,ak⟩ | ⟨ho,ak⟩
 case inr =>
  have ti:=HJ ak;simp only [UX,mF] at ti jk ⊢;simp [WC,-V,-y3,-y0,J,ti,jk]
 have ti:=HJ ak;have s1:=NK ho;have hD:=bR ho;have hF:=simF hD hD;have hn:=draftS_ps ho;have hwl:(uA l).length<=32:=hF.wl;obtain ⟨i,hi⟩:∃ i:Int,t.tmod (uA l).length=i:=⟨_,rfl⟩;have fc:i=t % (uA l).length:=by rw [<- hi,yu mb]
 have kg:0<=i:=by rw [fc]; exact yI _ (by omega)
 have oe:i<(uA l).length:=by rw [fc]; exact yL _ (by omega)
 have hb:iF 0 0 (uA l).length (uA l).length i i=0:=OP ⟨kg,oe⟩ ⟨kg,oe⟩;have f1:=HJ (tR s1 s1 (i:=i) (k:=i) (fun _=>hF) (by dsimp only; rw [hb]; decide));have f3:=jP s1 s1 (i:=i) (k:=i) (fun _=>hF) (by dsimp only; rw [hb]; decide);have hfs:=fine_self hD kg oe;dsimp only at f1 f3;rw [hb] at f1 f3;simp only [W1,hfs,if_true] at f1 f3;have ab:(DC (UO (uA l) (uA l)) (i,i)).length<=1024:=zN ⟨kg,oe,kg,oe⟩ hF.rng hF.wl hF.rl;have ze:=cS hD kg oe;have ma:(i,i)∈sC (DC (UO (uA l) (uA l)) (i,i)):=yN (a:=((i,i),[(i,i)],-1)) (yj (PS _ _));have uv:=pL (sC (DC (UO (uA l) (uA l)) (i,i)));have uc:(dN (sC (DC (UO (uA l) (uA l)) (i,i)))).length<=1024:=by rw [uv.length_eq]; simpa [sC] using ab
 have ah:(i,i)∈dN (sC (DC (UO (uA l) (uA l)) (i,i))):=uv.mem_iff.2 ma;have nw:((dN (sC (DC (UO (uA l) (uA l)) (i,i)))).any fun q=>!decide (q.1=q.2))=false:=by
  rw [List.any_eq_false];intro q hq;have:=(ze q (uv.mem_iff.1 hq)).2;simp [this]
 have f4:=HJ (H7 (dN (sC (DC (UO (uA l) (uA l)) (i,i)))) (by omega) false);have f5:=HJ (OT (dN (sC (DC (UO (uA l) (uA l)) (i,i)))) (by omega) false (i,i));rw [nw] at f4;rw [decide_eq_true ah] at f5;have hwt:IntKind.i64.wrap t=t:=IntWalk.i64_in _ (by omega);have hn1:¬ uA l=[]:=fun e=>by rw [e] at hn; simp at hn
 simp only [UX,OB,mF,XA] at f1 f3 f4 f5 ti jk ⊢;clear ze ma uv ah nw uc ab hfs hF hD s1;generalize dN (sC (DC (UO (uA l) (uA l)) (i,i)))=L at *
 generalize uA l=S at *
 simp at f1;simp [WC,-V,-y3,-y0,J,ti,jk,hwt,hn1,hi,f1,f3,f4,f5]
structure ClI (S1 S2:List fA) (t u:Int) (L:List Pr) (i:Int) (s:aA):Prop where
 e3:(s.env 3).v=.ptr 3 2 0
 e4:(s.env 4).v=.ptr 4 2 0
 m3:s.mem 3 2=some [⟨.sl false (S1.map eA),.no⟩,⟨.int .i64 t,.no⟩]
 m4:s.mem 4 2=some [⟨.sl false (S2.map eA),.no⟩,⟨.int .i64 u,.no⟩]
 e6:(s.env 6).v=.sl false (L.map XA)
 e44:(s.env 44).v=.sl false (L.map XA)
 e45:(s.env 45).v=.int .i64 L.length
 e46:(s.env 46).v=.int .i64 i
theorem closed_in {rv:RV} {S1 S2:List fA} {t u:Int} {L:List Pr} (hL:L.length<=1024) {i:Int} (qs:List Pr) (hq:qs.length<=1000000) (qb:Bool) (hm:∀ q∈qs,q∈L) (s:aA) (h:ClI S1 S2 t u L i s) (cw:(s.env 120).v=.sl qb (qs.map XA)) (mr:(s.env 121).v=.int .i64 qs.length) (iw:(s.env 122).v=.int .i64 0) (k:Ex->aA->Option RV)
  (hk:∀ s',ClI S1 S2 t u L i s'->k (.exit 2) s'=some rv):OI gP DO GC s k=some rv:=by
 refine MK qs.length (fun j s=>ClI S1 S2 t u L i s/\(s.env 120).v=.sl qb (qs.map XA)/\(s.env 121).v=.int .i64 qs.length/\(s.env 122).v=.int .i64 j)
  (fun e s=>e=.exit 2/\ClI S1 S2 t u L i s) (fun j hj s k h ih hk=>?_) _ _ ⟨h,cw,mr,iw⟩ (fun e s h=>by obtain ⟨rfl,h1⟩:=h; exact hk _ h1)
 obtain ⟨⟨e3,e4,m3,m4,e6,e44,e45,e46⟩,cw,mr,iw⟩:=h;refine tA ?_;by_cases da:j<qs.length
 ·have fa:(j:Int)<qs.length:=by omega
  have g1:(qs.map XA)[j]?=some (XA qs[j]):=by simp [da]
  have hw:=ZA (i:=j);have zb:=HJ (OT L (by omega) false qs[j]);rw [decide_eq_true (hm _ (y6 _))] at zb;generalize qs[j]=q at *
  simp only [UX,XA] at g1 zb;simp [GC,-V,-y3,-y0,J,e6,cw,mr,iw,fa,g1,zb,hw];refine ih da _ ⟨⟨?_,?_,?_,?_,?_,?_,?_,?_⟩,?_,?_,?_⟩
  ·simp [e3]
  ·simp [e4]
  ·simp [m3]
  ·simp [m4]
  ·simp [e6]
  ·simp [e44]
  ·simp [e45]
  ·simp [e46]
  ·simp [cw]
  ·simp [mr]
  ·simp
 ·have fa:¬ (j:Int)<qs.length:=by omega
  simp [GC,-V,-y3,-y0,J,mr,iw,fa];refine hk _ _ ⟨rfl,⟨?_,?_,?_,?_,?_,?_,?_,?_⟩⟩
  ·simp [e3]
  ·simp [e4]
  ·simp [m3]
  ·simp [m4]
  ·simp [e6]
  ·simp [e44]
  ·simp [e45]
  ·simp [e46]
theorem srt_asc {l:List Pr} (hn:l.Nodup) {i:Nat} {a x:Pr} (ha:(dN l)[i]?=some a) (hx:(dN l)[i + 1]?=some x):z6 a x=true:=by
 have hs:=cX l;have hd:(dN l).Nodup:=(pL l).nodup_iff.2 hn;have h1:=List.pairwise_iff_getElem.1 hs i (i + 1) (y9.1 ha).1 (y9.1 hx).1 (by omega);have h2:=List.pairwise_iff_getElem.1 hd i (i + 1) (y9.1 ha).1 (y9.1 hx).1 (by omega);rw [(y9.1 ha).2,(y9.1 hx).2] at h1 h2;rw [GP] at h1;rw [FL];have:¬ (a.1=x.1/\a.2=x.2):=fun h=>h2 (Prod.ext h.1 h.2)
 omega
theorem closed_lp {rv:RV} {S1 S2:List fA} (uk:jL ⟨false,S1⟩ 0) (hs2:jL ⟨false,S2⟩ 0) {nx:Pr->List Pr} {rs:Pr->Int} (hF:IQ ⟨false,S1⟩ ⟨false,S2⟩ nx rs) {t u:Int} {L:List Pr} (hL:L.length<=1024) (sa:∀ q∈L,rN S1.length S2.length q/\rs q=0/\∀ x∈nx q,x∈L) (ml:∀ i a x,L[i]?=some a->L[i + 1]?=some x->z6 a x=true) (s:aA) (h:ClI S1 S2 t u L 0 s) (k:Ex->aA->Option RV)
  (hk:∀ s',(s'.env 3).v=.ptr 3 2 0->(s'.env 4).v=.ptr 4 2 0->s'.mem 3 2=some [⟨.sl false (S1.map eA),.no⟩,⟨.int .i64 t,.no⟩]->s'.mem 4 2=some [⟨.sl false (S2.map eA),.no⟩,⟨.int .i64 u,.no⟩]->(s'.env 6).v=.sl false (L.map XA)->k (.exit 0) s'=some rv):OI gP DO NB s k=some rv:=by
 refine MK L.length (fun i s=>ClI S1 S2 t u L i s) (fun e s=>e=.exit 0/\∃ i,ClI S1 S2 t u L i s) (fun i hi s k h ih hk=>?_) _ _ h (fun e s h=>by obtain ⟨rfl,i,h⟩:=h; exact hk _ h.e3 h.e4 h.m3 h.m4 h.e6);have h0:=h;obtain ⟨e3,e4,m3,m4,e6,e44,e45,e46⟩:=h;refine tA ?_;by_cases da:i<L.length
 ·have fa:(i:Int)<L.length:=by omega
  have hw:=ZA (i:=i);have g1:(L.map XA)[i]?=some (XA L[i]):=by simp [da]
  have hx:L[i]?=some L[i]:=by simp [da]
  obtain ⟨zb,im,hsuc⟩:=sa _ (y6 da);have hb:iF 0 0 S1.length S2.length L[i].1 L[i].2=0:=OP ⟨zb.1,zb.2.1⟩ ⟨zb.2.2.1,zb.2.2.2⟩;have f1:=HJ (slocal_ev uk hs2 (i:=L[i].1) (k:=L[i].2) (fun _=>hF));have f2:=HJ (ssucs_ev uk hs2 (i:=L[i].1) (k:=L[i].2) (fun _=>hF));have tv:=hF.len L[i] zb;dsimp only at f1 f2;rw [hb] at f1 f2;simp only [sucL,if_true,im] at f1 f2;have hp:0<i->∃ a,(L.map XA)[i - 1]?=some (XA a)/\z6 a L[i]=true:=fun h0=>by
   obtain ⟨j,rfl⟩:∃ j,i=j + 1:=⟨i - 1,by omega⟩;have hj:L[j]?=some L[j]:=by simp
   exact ⟨L[j],by rw [Nat.add_sub_cancel,yc,hj]; rfl,ml j _ _ hj hx⟩
  generalize L[i]=q at *
  obtain ⟨a,b⟩:=q;dsimp only at f1 f2;simp only [UX,WA,XA,im] at f1 f2 g1;generalize nx (a,b)=qs at *
  have KN:∀ s':aA,ClI S1 S2 t u L i s'->(s'.env 120).v=.sl qs.isEmpty (qs.map XA)->(s'.env 121).v=.int .i64 qs.length->(s'.env 122).v=.int .i64 0->∀ kk:Ex->aA->Option RV,(∀ s'',ClI S1 S2 t u L i s''->kk (.exit 2) s''=some rv)->OI gP DO GC s' kk=some rv:=fun s' h1 h2 h3 h4 kk tb=>closed_in hL qs (by omega) _ hsuc s' h1 h2 h3 h4 kk tb
  by_cases h0:0<i
  ·obtain ⟨⟨c,d⟩,hy,kf⟩:=hp h0;obtain ⟨y,ii⟩:∃ y:Int,y=((i - 1:Nat):Int):=⟨_,rfl⟩;have hwy:IntKind.i64.wrap ((i:Int) - 1)=y:=by rw [IntWalk.i64_in _ (by omega)]; omega
   have hyn:0<=y:=by omega
   rw [show i - 1=y.toNat from by omega] at hy;have we:(0:Int)<i:=by omega
   rw [FL] at kf;dsimp only at kf;simp only [XA] at hy;have c1:¬ a<c:=by omega
   by_cases c2:a=c
   ·have c3:¬ b<=d:=by omega
    simp [NB,-V,-y3,-y0,J,e3,e4,m3,m4,e6,e44,e45,e46,fa,g1,f1,f2,h0,we,hwy,hyn,hy,c1,decide_eq_true c2,c3];refine KN _ ⟨?_,?_,?_,?_,?_,?_,?_,?_⟩ ?_ ?_ ?_ _ (fun s' h'=>?_)
    case refine_12 =>
     have e:=h'.e46;simp [-V,-y3,-y0,J,e,hw];exact ih da _ ⟨by simp [h'.e3],by simp [h'.e4],by simp [h'.m3],by simp [h'.m4],by simp [h'.e6],by simp [h'.e44],by simp [h'.e45],by simp⟩
    all_goals simp [e3,e4,m3,m4,e6,e44,e45,e46]
   ·simp [NB,-V,-y3,-y0,J,e3,e4,m3,m4,e6,e44,e45,e46,fa,g1,f1,f2,h0,we,hwy,hyn,hy,c1,c2];refine KN _ ⟨?_,?_,?_,?_,?_,?_,?_,?_⟩ ?_ ?_ ?_ _ (fun s' h'=>?_)
    case refine_12 =>
     have e:=h'.e46;simp [-V,-y3,-y0,J,e,hw];exact ih da _ ⟨by simp [h'.e3],by simp [h'.e4],by simp [h'.m3],by simp [h'.m4],by simp [h'.e6],by simp [h'.e44],by simp [h'.e45],by simp⟩
    all_goals simp [e3,e4,m3,m4,e6,e44,e45,e46]
  ·have we:¬ (0:Int)<i:=by omega
   simp [NB,-V,-y3,-y0,J,e3,e4,m3,m4,e6,e44,e45,e46,fa,g1,f1,f2,h0,we];refine KN _ ⟨?_,?_,?_,?_,?_,?_,?_,?_⟩ ?_ ?_ ?_ _ (fun s' h'=>?_)
   case refine_12 =>
    have e:=h'.e46;simp [-V,-y3,-y0,J,e,hw];exact ih da _ ⟨by simp [h'.e3],by simp [h'.e4],by simp [h'.m3],by simp [h'.m4],by simp [h'.e6],by simp [h'.e44],by simp [h'.e45],by simp⟩
   all_goals simp [e3,e4,m3,m4,e6,e44,e45,e46]
 ·have fa:¬ (i:Int)<L.length:=by omega
  simp [NB,-V,-y3,-y0,J,e45,e46,fa];exact hk _ _ ⟨rfl,i,⟨by simp [e3],by simp [e4],by simp [m3],by simp [m4],by simp [e6],by simp [e44],by simp [e45],by simp [e46]⟩⟩
theorem Q3 {dn cn:Bool} {l:List dC} {cs:List xU} {T U:Int} (h:nZ l cs T U):UX 9 [.agg (aM dn l cn cs T U)] (.bool true):=by
 have jk:=HJ OQ;obtain ⟨r,hr,ak⟩:=of20_ev (dn:=dn) (cn:=cn) h;refine aK TB rfl rfl ?_ (by rfl);rcases hr with rfl | ⟨l1,l2,t1,u1,o1,o2,zb,rfl⟩
 ·have ti:=HJ ak;simp only [UX,aM,PQ] at ti jk ⊢;simp [TB,-V,-y3,-y0,J,ti,jk]
 have ti:=HJ ak;have s1:=NK o1;have s2:=NK o2;have hF:=simF (bR o1) (bR o2);have hb:iF 0 0 (uA l1).length (uA l2).length t1 u1=0:=OP ⟨zb.1,zb.2.1⟩ ⟨zb.2.2.1,zb.2.2.2⟩;have f3:=jP s1 s2 (i:=t1) (k:=u1) (fun _=>hF) (by dsimp only; rw [hb]; decide);dsimp only at f3;rw [hb] at f3;by_cases kv:TG (UO (uA l1) (uA l2)) (rsP (uA l1) (uA l2)) (t1,u1)=true
 case neg =>
  simp only [W1,kv] at f3;simp only [UX,aM,OB] at f3 ti jk ⊢;simp at f3;simp [TB,-V,-y3,-y0,J,ti,jk,f3]
 simp only [W1,kv,if_true] at f3;have ab:(DC (UO (uA l1) (uA l2)) (t1,u1)).length<=1024:=zN zb hF.rng hF.wl hF.rl;have uv:=pL (sC (DC (UO (uA l1) (uA l2)) (t1,u1)));have hL:(dN (sC (DC (UO (uA l1) (uA l2)) (t1,u1)))).length<=1024:=by rw [uv.length_eq]; simpa [sC] using ab
 have aq:(t1,u1)∈dN (sC (DC (UO (uA l1) (uA l2)) (t1,u1))):=uv.mem_iff.2 (yN (a:=((t1,u1),[(t1,u1)],-1)) (yj (PS _ _)));have sa:∀ q∈dN (sC (DC (UO (uA l1) (uA l2)) (t1,u1))),rN (uA l1).length (uA l2).length q/\rsP (uA l1) (uA l2) q=0/\∀ x∈UO (uA l1) (uA l2) q,x∈dN (sC (DC (UO (uA l1) (uA l2)) (t1,u1))):=fun q hq=>by
  have hq':=uv.mem_iff.1 hq;refine ⟨pI zb hF.rng 1024 q hq',?_,fun x hx=>uv.mem_iff.2 (ZO zb hF.rng hF.wl hF.rl hq' x hx)⟩;have:=y5.1 kv q hq';simpa using this
 have ml:=fun i a x=>srt_asc (IP (UO (uA l1) (uA l2)) (t1,u1) 1024) (i:=i) (a:=a) (x:=x)
 change ∀ i a x,(dN (sC (DC (UO (uA l1) (uA l2)) (t1,u1))))[i]?=some a->(dN (sC (DC (UO (uA l1) (uA l2)) (t1,u1))))[i + 1]?=some x->z6 a x=true at ml;have f5:=HJ (OT (dN (sC (DC (UO (uA l1) (uA l2)) (t1,u1)))) (by omega) false (t1,u1));rw [decide_eq_true aq] at f5;simp only [UX,OB,aM,XA] at f3 f5 ti jk ⊢;clear aq uv ab kv;generalize dN (sC (DC (UO (uA l1) (uA l2)) (t1,u1)))=L at *
 simp [TB,-V,-y3,-y0,J,ti,jk,f3];refine closed_lp s1 s2 hF hL sa ml (t:=t1) (u:=u1) _ ⟨?_,?_,?_,?_,?_,?_,?_,?_⟩ _ (fun s' h3 h4 h5 h6 h7=>?_)
 case refine_9=>simp [-V,-y3,-y0,J,h3,h4,h5,h6,h7,f5]
 all_goals simp
end Go.Proofs.YtbnlmgncbgaepaaGreat
