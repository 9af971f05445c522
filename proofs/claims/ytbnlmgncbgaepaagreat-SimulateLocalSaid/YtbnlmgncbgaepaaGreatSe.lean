/- Part of the proof: the machine, the code of functions, and what it computes. -/
import Derived.Test.YtbnlmgncbgaepaaGreatSd
import Derived.Lib.Zigzag
set_option linter.unusedSimpArgs false
set_option linter.unusedVariables false
set_option linter.unusedSectionVars false
set_option maxRecDepth 100000
set_option maxHeartbeats 8000000
open Option renaming bind_some → y0, map_eq_some_iff → yh, map_some → yt
open List renaming range_succ → y3, map_map → y4, all_eq_true → y6, getElem?_eq_getElem → y7, getElem_mem → y8, drop_eq_getElem_cons → yc, getElem?_eq_some_iff → ye, getElem?_map → yf, drop_eq_nil_of_le → yg, mem_cons → yj, map_cons → yk, mem_cons_self → yl, map_nil → yn, mem_of_getElem? → yo, mem_cons_of_mem → yp, map_congr_left → yq, length_append → yu, length_map → yx, mem_map → yz, mem_append → yA, getElem_of_mem → yC, length_take → yD, replicate → yF, flatten_cons → yG, not_mem_nil → yJ, length_cons → yK, getElem?_append_left → yM, take_of_length_le → yO, eq_nil_of_length_eq_zero → yP, getElem?_append_right → yQ, take_append_getElem → yR, getElem?_take → yT, getElem?_drop → yU
open Int renaming toNat_lt → y5, tmod_eq_emod_of_nonneg → yw, emod_nonneg → yI, emod_lt_of_pos → yN
open Bool renaming and_eq_true → yb, false_eq_true → yr
open Nat renaming le_refl → ym, zero_add → yy, succ_mul → yB, eq_zero_or_pos → yE, mul_le_mul_right → yW, lt_of_lt_of_le → yX
namespace Go.Proofs.YtbnlmgncbgaepaaGreat
open Go
abbrev Pr:=Int × Int
def prC (p:Pr):List AV:=[.int .i64 p.1,.int .i64 p.2]
theorem room1:q10 16 1=true:=by decide
theorem room2:q10 16 2=true:=by decide
theorem els_pr (l:List Pr):q1f 2 (l.map prC)=true:=q1B _ _ _ fun _=>rfl
theorem rin_ev (l:List Pr) (hl:l.length<=9223372036854775807) (b:Bool) (p:Pr):evA 35 [.sl b (l.map prC),.agg (prC p)] (.bool (decide (p∈l))):=by
 refine q00 (c:=q81) rfl rfl ?_;simp [q81,-y0,-y5,-y4,y3,prC];refine q0f l.length (fun i s=>(s.env 0).v=.sl b (l.map prC)/\(s.env 3).v=.ptr 3 1 0/\s.mem 3 1=some [⟨.int .i64 p.1,.no⟩,⟨.int .i64 p.2,.no⟩]/\(s.env 5).v=.int .i64 i/\(decide (p∈l)=decide (p∈l.drop i)))
  (fun e s=>(e=.exit 0/\¬ p∈l)\/(e=.ret/\(s.env 4).v=.bool true/\p∈l)) (fun i hi s k h ih hk=>?_) _ _ ?_ (fun e s h=>?_)
 ·obtain ⟨e0,e3,m3,e5,hd⟩:=h;refine q04 ?_;by_cases hlt:i<l.length
  ·have hlt':(i:Int)<l.length:=by omega
   have g1:(l.map prC)[i]?=some (prC l[i]):=by simp [hlt]
   have hw:=q11 (i:=i) (by omega);rw [yc hlt] at hd;generalize l[i]=q at *
   simp only [prC] at g1;by_cases c1:q.1=p.1
   ·by_cases c2:q.2=p.2
    ·have e:q=p:=Prod.ext c1 c2;simp [q4i,-y0,-y5,-y4,y3,e0,e3,m3,e5,hlt',g1,c1,c2,hw];refine hk _ _ (.inr ⟨rfl,by simp,?_⟩);simp [e] at hd;exact hd
    ·have e:¬ p=q:=fun h=>c2 (by rw [h])
     simp [q4i,-y0,-y5,-y4,y3,e0,e3,m3,e5,hlt',g1,c1,c2,hw];refine ih hlt _ ⟨?_,?_,?_,?_,?_⟩ <;> simp [e0,e3,m3]
     simpa [e] using hd
   ·have e:¬ p=q:=fun h=>c1 (by rw [h])
    simp [q4i,-y0,-y5,-y4,y3,e0,e3,m3,e5,hlt',g1,c1,hw];refine ih hlt _ ⟨?_,?_,?_,?_,?_⟩ <;> simp [e0,e3,m3]
    simpa [e] using hd
  ·have hlt':¬ (i:Int)<l.length:=by omega
   simp [q4i,-y0,-y5,-y4,y3,e0,e5,hlt'];refine hk _ _ (.inl ⟨rfl,?_⟩);rw [yg (by omega)] at hd;simpa using hd
 ·refine ⟨?_,?_,?_,?_,?_⟩ <;> simp [prC]
 ·rcases h with ⟨rfl,hn⟩ | ⟨rfl,e4,hy⟩
  ·simp [-y0,-y5,-y4,y3,hn]
  ·simp [-y0,-y5,-y4,y3,e4,hy]
theorem index_ev (l:List Pr) (hl:l.length<=9223372036854775807) (b:Bool) (p:Pr):evA 158 [.sl b (l.map prC),.agg (prC p)] (.int .i64 (idxI (fun q=>decide (q=p)) l)):=by
 refine q00 (c:=q2m) rfl rfl ?_;simp [q2m,-y0,-y5,-y4,y3,prC];refine q0f l.length (fun i s=>(s.env 0).v=.sl b (l.map prC)/\(s.env 3).v=.ptr 3 1 0/\s.mem 3 1=some [⟨.int .i64 p.1,.no⟩,⟨.int .i64 p.2,.no⟩]/\(s.env 7).v=.int .i64 l.length/\(s.env 8).v=.int .i64 i/\(idxI (fun q=>decide (q=p)) l=if idxI (fun q=>decide (q=p)) (l.drop i)=-1 then -1 else idxI (fun q=>decide (q=p)) (l.drop i) + i))
  (fun e s=>(e=.exit 0/\idxI (fun q=>decide (q=p)) l=-1)\/(e=.ret/\(s.env 4).v=.int .i64 (idxI (fun q=>decide (q=p)) l))) (fun i hi s k h ih hk=>?_) _ _ ?_ (fun e s h=>?_)
 ·obtain ⟨e0,e3,m3,e7,e8,hd⟩:=h;refine q04 ?_;by_cases hlt:i<l.length
  ·have hlt':(i:Int)<l.length:=by omega
   have g1:(l.map prC)[i]?=some (prC l[i]):=by simp [hlt]
   have hw:=q11 (i:=i) (by omega);have hge:=q3h (fun q=>decide (q=p)) (l.drop (i + 1));rw [yc hlt] at hd;generalize l[i]=q at *
   simp only [prC] at g1;have no:¬ q=p->idxI (fun q=>decide (q=p)) l=if idxI (fun q=>decide (q=p)) (l.drop (i + 1))=-1 then -1 else idxI (fun q=>decide (q=p)) (l.drop (i + 1)) + ((i + 1:Nat):Int):=fun e=>by
    rw [q6D _ _ _ (by simpa using e)] at hd;rw [hd];split
    ·rename_i h; simp [h]
    ·rename_i h; rw [if_neg (by omega)]; omega
   by_cases c1:q.1=p.1
   ·by_cases c2:q.2=p.2
    ·have e:q=p:=Prod.ext c1 c2;simp [q1k,-y0,-y5,-y4,y3,e0,e3,m3,e7,e8,hlt',g1,c1,c2,hw];refine hk _ _ (.inr ⟨rfl,?_⟩);rw [hd];simp [e,idxI]
    ·have c2':¬ p.2=q.2:=fun h=>c2 h.symm
     simp [q1k,-y0,-y5,-y4,y3,e0,e3,m3,e7,e8,hlt',g1,c1,c2',hw];refine ih hlt _ ⟨?_,?_,?_,?_,?_,no fun h=>c2 (by rw [h])⟩ <;> simp [e0,e3,m3,e7]
   ·have c1':¬ p.1=q.1:=fun h=>c1 h.symm
    simp [q1k,-y0,-y5,-y4,y3,e0,e3,m3,e7,e8,hlt',g1,c1',hw];refine ih hlt _ ⟨?_,?_,?_,?_,?_,no fun h=>c1 (by rw [h])⟩ <;> simp [e0,e3,m3,e7]
  ·have hlt':¬ (i:Int)<l.length:=by omega
   simp [q1k,-y0,-y5,-y4,y3,e7,e8,hlt'];refine hk _ _ (.inl ⟨rfl,?_⟩);rw [yg (by omega)] at hd;simpa [idxI] using hd
 ·refine ⟨?_,?_,?_,?_,?_,?_⟩ <;> simp [prC]
 ·rcases h with ⟨rfl,hn⟩ | ⟨rfl,e4⟩
  ·simp [-y0,-y5,-y4,y3,hn]
  ·simp [-y0,-y5,-y4,y3,e4]
theorem contains_ev (l:List Pr) (hl:l.length<=9223372036854775807) (b:Bool) (p:Pr):evA 136 [.sl b (l.map prC),.agg (prC p)] (.bool (decide (p∈l))):=by
 have h:=index_ev l hl b p;refine q00 (c:=q1P) rfl rfl ?_;simp only [evA,prC] at h;have h2:decide (p∈l)=decide (0<=idxI (fun q=>decide (q=p)) l):=by
  rw [idxI_any];by_cases hp:p∈l
  ·rw [decide_eq_true hp,List.any_eq_true.2 ⟨p,hp,by simp⟩]
  ·rw [decide_eq_false hp]
   symm
   rw [List.any_eq_false];intro x hx;simp only [decide_eq_true_eq];rintro rfl;exact hp hx
 rw [h2];simp [q1P,-y0,-y5,-y4,y3,prC,h]
def addP (out:List Pr) (p:Pr):List Pr:=if p∈out then out else out++[p]
def comM (ys:List Mem) (f:Mem):List Pr:=if 0<=q1l ys f.id then (match ys[(q1l ys f.id).toNat]? with
 | some g=>[(f.ty,g.ty)]
 | none=>[]) else []
def comL (xs ys:List Mem):List Pr:=xs.flatMap (comM ys)
def keyL (x y:Typ):List Pr:=if x.kind=8/\0<x.max then [(x.key,y.key)] else []
def elemL (x y:Typ):List Pr:=if x.kind=9\/(x.kind=7\/x.kind=8)/\0<x.max then [(x.elem,y.elem)] else []
def q9H (x y:Typ):List Pr:=if x.kind=y.kind then (comL x.mems y.mems++keyL x y++elemL x y).foldl addP [] else []
theorem comM_len (ys:List Mem) (f:Mem):(comM ys f).length<=1:=by
 unfold comM;split
 ·split <;> simp
 ·simp
theorem addP_len (out:List Pr) (p:Pr):(addP out p).length<=out.length + 1:=by
 unfold addP;split <;> simp
theorem qaZ:∀ (l out:List Pr),(l.foldl addP out).length<=out.length + l.length
 | [],out=>by simp
 | p :: r,out=>by
  have h1:=qaZ r (addP out p);have h2:=addP_len out p;simp only [List.foldl_cons,yK];omega
theorem q93 (ys:List Mem):∀ xs:List Mem,(comL xs ys).length<=xs.length
 | []=>by simp [comL]
 | f :: r=>by
  have h1:=q93 ys r;have h2:=comM_len ys f;simp only [comL,List.flatMap_cons,yu,yK] at h1 ⊢;omega
def q6i (out:List Pr) (a:An):List Slot:=[⟨.sl out.isEmpty (out.map prC),a⟩]
def outAn (out:List Pr) (a:An):Prop:=out=[]/\a=.ex\/out≠[]/\a=.own 16 63
theorem add_ev {r:RV} (out:List Pr) (hlen:out.length<=1000000) (a b:Int) {a1 a2 a3:An} {s:MSt} {t n:Nat} {an:An} (ht:t≠5) (hm:s.mem t n=some (q6i out an)) (han:outAn out an) (k:Slot->MSt->Option RV)
  (hk:∀ y s' an',s.next<=s'.next->s'.mem t n=some (q6i (addP out (a,b)) an')->outAn (addP out (a,b)) an'->(∀ j,(s'.gh j).v=(s.gh j).v)->(∀ t' n' row,t'≠5->¬ (t'=t/\n'=n)->s.mem t' n'=some row->(∀ x∈row,x.a=.no)->s'.mem t' n'=some row)->k y s'=some r) :
  evH allT q01 135 [⟨.int .i64 a,a1⟩,⟨.int .i64 b,a2⟩,⟨.ptr t n 0,a3⟩] s k=some r:=by
 refine evH_intro q0V rfl rfl ?_;have hc:=contains_ev out (by omega) out.isEmpty (a,b);have q:=els_pr out;have hroom:q10 16 (out.length + 1)=true:=by rw [q0l]; omega
 have hrow:∀ (row:List Slot),(∀ x∈row,x.a=.no)->row.map (Slot.strip 16)=row:=fun row h=>by
  conv=>rhs; rw [<- List.map_id row]
  refine yq fun x hx=>?_
  have:=h x hx;cases x;simp only at this;subst this;rfl
 simp only [evA,prC] at hc;simp only [q6i] at hm;by_cases hin:(a,b)∈out
 ·rw [decide_eq_true hin] at hc;have hadd:addP out (a,b)=out:=if_pos hin;rw [hadd] at hk;simp [q0V,-y0,-y5,-y4,y3,hm,ht,hc];refine hk _ _ an ?_ ?_ han ?_ ?_
  ·simp; omega
  ·simp [hm,ht,q6i]
  ·intro j; simp
  ·intro t' n' row h5 hne h1 _;simp [h5,h1]
 ·rw [decide_eq_false hin] at hc;have hadd:addP out (a,b)=out++[(a,b)]:=if_neg hin;rw [hadd] at hk;rcases han with ⟨rfl,rfl⟩ | ⟨hne,rfl⟩
  ·simp only [List.isEmpty_nil,yn] at hc hm;simp [q0V,-y0,-y5,-y4,y3,hm,ht,hc,room1];refine hk _ _ (.own 16 63) ?_ ?_ (.inr ⟨by simp,rfl⟩) ?_ ?_
   ·simp; omega
   ·simp [hm,ht,q6i,prC]
   ·intro j; simp
   ·intro t' n' row h5 hne h1 h2;have:=hrow row h2;simp [h5,hne,h1,this]
  ·have hie:out.isEmpty=false:=by simpa using hne
   rw [hie] at hm hc;simp [q0V,-y0,-y5,-y4,y3,hm,ht,hc,hroom,q];refine hk _ _ (.own 16 63) ?_ ?_ (.inr ⟨by simp,rfl⟩) ?_ ?_
   ·simp; omega
   ·simp [hm,ht,q6i,prC]
   ·intro j; simp
   ·intro t' n' row h5 hne h1 h2;have:=hrow row h2;simp [h5,hne,h1,this]
theorem comM_some {ys:List Mem} {f:Mem} (h:0<=q1l ys f.id) {g:Mem} (hg:ys[(q1l ys f.id).toNat]?=some g):comM ys f=[(f.ty,g.ty)]:=by
 unfold comM;rw [if_pos h,hg]
theorem comM_none {ys:List Mem} {f:Mem} (h:¬ 0<=q1l ys f.id):comM ys f=[]:=if_neg h
def qax (xs ys:List Mem) (i:Nat):List Pr:=(comL (xs.take i) ys).foldl addP []
theorem comTo_step {xs ys:List Mem} {i:Nat} (h:i<xs.length):qax xs ys (i + 1)=(comM ys xs[i]).foldl addP (qax xs ys i):=by
 unfold qax comL;rw [<- yR h,List.flatMap_append,List.foldl_append];simp
theorem comTo_len (xs ys:List Mem) (i:Nat):(qax xs ys i).length<=i:=by
 have h1:=qaZ (comL (xs.take i) ys) [];have h2:=q93 ys (xs.take i);simp only [yD,List.length_nil] at h1 h2;unfold qax;omega
def q18:C:=.block 2 (.seq (.reg [oS 93 (.bin .eql false (.t 67) (.c (.int .u8 0))),oM 92 93]) (.cond (.t 92) (.reg [oM 94 8,oM 95 8,oK 96 95,oF 97 1 96,oL 98 97,oF 99 2 7,oS 100 (.load (.root 7) false 1 (.t 99)),oS 101 (.bin .rem false (.t 100) (.c (.int .u8 5))),oB 102 .add 98 101,oS 103 (.bin .sub false (.t 102) (.c (.int .u8 2))),oK 104 94,oF 105 1 104,oW 105 103]) (.seq (.reg [oS 107 (.bin .eql false (.t 67) (.c (.int .u8 1))),oM 106 107]) (.cond (.t 106) (.reg [oM 108 8,oM 109 8,oK 110 109,oF 111 2 110,oL 112 111,oF 113 3 7,oS 114 (.load (.root 7) false 1 (.t 113)),oS 115 (.bin .rem false (.t 114) (.c (.int .u8 5))),oB 116 .add 112 115,oS 117 (.bin .sub false (.t 116) (.c (.int .u8 2))),oK 118 108,oF 119 2 118,oW 119 117]) (.seq (.reg [oS 121 (.bin .eql false (.t 67) (.c (.int .u8 2))),oM 120 121]) (.cond (.t 120) (.reg [oM 122 8,oM 123 8,oK 124 123,oF 125 1 124,oL 126 125,oF 127 2 7,oS 128 (.load (.root 7) false 1 (.t 127)),oS 129 (.bin .rem false (.t 128) (.c (.int .u8 6))),oS 130 (.bin .shl false (.c (.int .u8 1)) (.t 129)),oB 131 .xor 126 130,oK 132 122,oF 133 1 132,oW 133 131]) (.seq (.reg [oS 135 (.bin .eql false (.t 67) (.c (.int .u8 3))),oM 134 135]) (.cond (.t 134) (.reg [oM 136 8,oM 137 8,oK 138 137,oF 139 3 138,oL 140 139,oF 141 2 7,oS 142 (.load (.root 7) false 1 (.t 141)),oB 143 .add 140 142,oK 144 136,oF 145 3 144,oW 145 143]) (.seq (.reg [oS 147 (.bin .eql false (.t 67) (.c (.int .u8 4))),oM 146 147]) (.cond (.t 146) (oR [oM 148 8,oK 149 148,oF 150 4 149,oL 151 150,oH 152 151,oC 153 .lss 152 8] (.cond (.t 153) (.reg [oM 154 8,oM 155 8,oK 156 155,oF 157 4 156,oL 158 157,oF 159 2 7,oS 160 (.load (.root 7) false 1 (.t 159)),oF 161 3 7,oS 162 (.load (.root 7) false 1 (.t 161)),oF 163 2 7,oS 164 (.load (.root 7) false 1 (.t 163)),oS 165 (.bin .quo false (.t 164) (.c (.int .u8 12))),oS 166 (.build zzg [(0,(1,(.t 160))),(1,(1,(.t 162))),(2,(1,(.t 165)))]),oS 167 (.bsl zzg 1 [(0,(.t 166))]),oS 168 (.appm .any 165 3 3 (.t 158) (.t 167)),oK 169 154,oF 170 4 169,oW 170 168]) .skip)) (.seq (.reg [oS 172 (.bin .eql false (.t 67) (.c (.int .u8 5))),oM 171 172]) (.cond (.t 171) (oR [oM 173 8,oK 174 173,oF 175 4 174,oL 176 175,oH 177 176,oC 178 .gtr 177 0] (.cond (.t 178) (.reg [oM 179 8,oM 180 8,oK 181 180,oF 182 4 181,oL 183 182,oM 184 9,oS 185 (.slc false 3 (.t 183) .none (.some (.t 184)) .none),oM 186 8,oK 187 186,oF 188 4 187,oL 189 188,oM 190 9,oC 191 .add 190 1,oS 192 (.slc false 3 (.t 189) (.some (.t 191)) .none .none),oS 193 (.appm .any 165 3 3 (.t 185) (.t 192)),oK 194 179,oF 195 4 194,oW 195 193]) .skip)) (.seq (.reg [oS 197 (.bin .eql false (.t 67) (.c (.int .u8 6))),oM 196 197]) (.cond (.t 196) (oR [oM 198 8,oK 199 198,oF 200 4 199,oL 201 200,oH 202 201,oC 203 .gtr 202 0] (.cond (.t 203) (.reg [oM 204 8,oK 205 204,oF 206 4 205,oL 207 206,oM 208 9,oF 209 3 7,oS 210 (.load (.root 7) false 1 (.t 209)),oI 211 3 207 208,oF 212 2 211,oW 212 210]) .skip)) (oR [oM 68 8,oK 69 68,oF 70 4 69,oL 71 70,oH 72 71,oC 73 .gtr 72 0] (.cond (.t 73) (.reg [oM 74 8,oK 75 74,oF 76 4 75,oL 77 76,oM 78 9,oM 79 8,oK 80 79,oF 81 4 80,oL 82 81,oM 83 9,oI 84 3 82 83,oF 85 1 84,oL 86 85,oF 87 3 7,oS 88 (.load (.root 7) false 1 (.t 87)),oB 89 .add 86 88,oI 90 3 77 78,oF 91 1 90,oW 91 89]) .skip))))))))))))))))
theorem chg_L1:q19=.seq (.seq (.reg [⟨(.some 15),(.mv (.t 6)),.none⟩,⟨(.some 16),(.mv (.t 1)),.none⟩,⟨(.some 17),(.len .false (.t 16)),.none⟩,⟨(.some 18),(.bin .lss .false (.t 15) (.t 17)),.none⟩,⟨(.some 19),(.mv (.t 18)),.none⟩,⟨(.some 20),(.faddr 0 (.t 5)),(.some (19,.true))⟩,⟨(.some 21),(.load .any .false 1 (.t 20)),(.some (19,.true))⟩,⟨(.some 22),(.len .false (.t 21)),(.some (19,.true))⟩,⟨(.some 23),(.bin .gtr .false (.t 22) (.c (.int .i64 0))),(.some (19,.true))⟩,⟨(.some 24),(.pick (.t 19) (.t 23) (.c (.bool .false))),.none⟩]) (.cond (.t 24) .skip (.exit 0))) (.seq (.block 1 (.seq (.reg [⟨(.some 27),(.mv (.t 1)),.none⟩,⟨(.some 28),(.mv (.t 6)),.none⟩,⟨(.some 29),(.iaddr 4 (.t 27) (.t 28)),.none⟩,⟨(.some 30),(.load .any .true 4 (.t 29)),.none⟩,⟨(.some 7),(.alloc [(.int .u8 0),(.int .u8 0),(.int .u8 0),(.int .u8 0)]),.none⟩,⟨.none,(.store .any .true 4 (.t 7) (.t 30)),.none⟩]) (.seq (.reg [⟨(.some 31),(.faddr 0 (.t 5)),.none⟩,⟨(.some 32),(.load (.root 5) .false 1 (.t 31)),.none⟩,⟨(.some 33),(.faddr 1 (.t 7)),.none⟩,⟨(.some 34),(.load (.root 7) .false 1 (.t 33)),.none⟩,⟨(.some 35),(.conv (.some .i64) (.t 34)),.none⟩,⟨(.some 36),(.faddr 0 (.t 5)),.none⟩,⟨(.some 37),(.load (.root 5) .false 1 (.t 36)),.none⟩,⟨(.some 38),(.len .false (.t 37)),.none⟩,⟨(.some 39),(.bin .rem .false (.t 35) (.t 38)),.none⟩,⟨(.some 40),(.iaddr 5 (.t 32) (.t 39)),.none⟩,⟨(.some 8),(.mv (.t 40)),.none⟩]) (.seq (.reg [⟨(.some 41),(.mv (.t 8)),.none⟩,⟨(.some 42),(.bsl [(.int .u8 0),(.int .u8 0),(.int .u8 0)] 0 []),.none⟩,⟨(.some 43),(.mv (.t 8)),.none⟩,⟨(.some 44),(.nilchk (.t 43)),.none⟩,⟨(.some 45),(.faddr 4 (.t 44)),.none⟩,⟨(.some 46),(.load .any .false 1 (.t 45)),.none⟩,⟨(.some 47),(.appf .any 165 3 3 (.t 42) (.t 46)),.none⟩,⟨(.some 48),(.nilchk (.t 41)),.none⟩,⟨(.some 49),(.faddr 4 (.t 48)),.none⟩,⟨.none,(.store .any .false 1 (.t 49) (.t 47)),.none⟩]) (.seq (.reg [⟨(.some 9),(.mv (.c (.int .i64 0))),.none⟩]) (.seq (.seq (.reg [⟨(.some 50),(.mv (.t 8)),.none⟩,⟨(.some 51),(.nilchk (.t 50)),.none⟩,⟨(.some 52),(.faddr 4 (.t 51)),.none⟩,⟨(.some 53),(.load .any .false 1 (.t 52)),.none⟩,⟨(.some 54),(.len .false (.t 53)),.none⟩,⟨(.some 55),(.bin .gtr .false (.t 54) (.c (.int .i64 0))),.none⟩]) (.cond (.t 55) (.reg [⟨(.some 56),(.faddr 2 (.t 7)),.none⟩,⟨(.some 57),(.load (.root 7) .false 1 (.t 56)),.none⟩,⟨(.some 58),(.conv (.some .i64) (.t 57)),.none⟩,⟨(.some 59),(.mv (.t 8)),.none⟩,⟨(.some 60),(.nilchk (.t 59)),.none⟩,⟨(.some 61),(.faddr 4 (.t 60)),.none⟩,⟨(.some 62),(.load .any .false 1 (.t 61)),.none⟩,⟨(.some 63),(.len .false (.t 62)),.none⟩,⟨(.some 64),(.bin .rem .false (.t 58) (.t 63)),.none⟩,⟨(.some 9),(.mv (.t 64)),.none⟩]) .skip)) (.seq (.reg [⟨(.some 65),(.faddr 0 (.t 7)),.none⟩,⟨(.some 66),(.load .any .false 1 (.t 65)),.none⟩,⟨(.some 67),(.bin .rem .false (.t 66) (.c (.int .u8 8))),.none⟩]) q18))))))) (.reg [⟨(.some 25),(.mv (.t 6)),.none⟩,⟨(.some 26),(.bin .add .false (.t 25) (.c (.int .i64 1))),.none⟩,⟨(.some 6),(.mv (.t 26)),.none⟩])):=rfl
structure Chg where
 kind:Int
 node:Int
 a:Int
 b:Int
def chgC (c:Chg):List AV:=[.int .u8 c.kind,.int .u8 c.node,.int .u8 c.a,.int .u8 c.b]
def Chg.ok (c:Chg):Prop:=u8 c.kind/\u8 c.node/\u8 c.a/\u8 c.b
def q6z (c:Chg):List Slot:=[⟨.int .u8 c.kind,.no⟩,⟨.int .u8 c.node,.no⟩,⟨.int .u8 c.a,.no⟩,⟨.int .u8 c.b,.no⟩]
abbrev Nd:=Nde × Slot
def q6o (q:Nd):List Slot:=[⟨.int .u8 q.1.k,.no⟩,⟨.int .u8 q.1.a,.no⟩,⟨.int .u8 q.1.b,.no⟩,⟨.int .u8 q.1.c,.no⟩,q.2]
def q0n (xs:List Nd):List Slot:=xs.flatMap q6o
theorem q9G:∀ xs:List Nd,(q0n xs).length=xs.length * 5
 | []=>rfl
 | q :: r=>by
  have:=q9G r;unfold q0n at this ⊢;rw [List.flatMap_cons,yu,this,yK];simp [q6o];omega
theorem q7O {xs:List Nd} {z:Nat} {q:Nd} (h:xs[z]?=some q):q0n xs=q0n (xs.take z)++(q6o q++q0n (xs.drop (z + 1)))/\(q0n (xs.take z)).length=z * 5:=by
 obtain ⟨hz,rfl⟩:=ye.1 h;refine ⟨?_,by rw [q9G,yD]; omega⟩;have e:xs=xs.take z++(xs[z] :: xs.drop (z + 1)):=by rw [<- yc hz,List.take_append_drop]
 refine (congrArg q0n e).trans ?_;unfold q0n;rw [List.flatMap_append,List.flatMap_cons]
theorem q2D {xs:List Nd} {z:Nat} {q:Nd} (h:xs[z]?=some q) (o:Nat) (ho:o<5):(q0n xs)[z * 5 + o]?=(q6o q)[o]?:=by
 obtain ⟨h1,h2⟩:=q7O h;rw [h1,yQ (by omega),h2,Nat.add_sub_cancel_left,yM (by simp [q6o]; omega)]
theorem ndsRow_set {xs:List Nd} {z:Nat} {q q':Nd} (h:xs[z]?=some q) (o:Nat) (ho:o<5) (y:Slot) (hq:(q6o q).set o y=q6o q'):(q0n xs).set (z * 5 + o) y=q0n (xs.set z q'):=by
 obtain ⟨h1,h2⟩:=q7O h;have hz:=(ye.1 h).1;have h':(xs.set z q')[z]?=some q':=List.getElem?_set_self hz;obtain ⟨g1,g2⟩:=q7O h';rw [h1,g1,List.set_append_right _ _ (by omega),h2,Nat.add_sub_cancel_left,List.set_append_left _ _ (by simp [q6o]; omega),hq];rw [List.take_set_of_le (ym z),List.drop_set_of_lt (Nat.lt_succ_self z)]
theorem q2p {xs:List Nd} {z:Nat} {q q':Nd} (h:xs[z]?=some q) (o:Nat) (ho:o<5) (v:AV) (a:An) (hv:v.leaf=true) (hq:(q6o q).set o ⟨v,a⟩=q6o q'):q0i false 1 (z * 5 + o) (q0n xs) v a=some (q0n (xs.set z q')):=by
 have hz:=(ye.1 h).1;have hl:=q9G xs;simp only [q0i,hv];rw [<- ndsRow_set h o ho _ hq];simp;omega
def nmM (x:Slot):Option Nat:=match x.v with
 | .ref _ M _ _ _ _=>some M
 | _=>none
def PcI (M:Nat->Nat->Option (List Slot)) (n:Nat) (x:Slot):Prop :=
 (∃ (nl:Bool) (ps:List Prt) (a:An),x=⟨.sl nl (ps.map prtC),a⟩/\(a=.no\/a=.ex)/\(∀ p∈ps,p.ok)/\ps.length * 3<=140737488355328) ∨
 ∃ (t N c:Nat) (ps:List Prt),x=⟨.ref t N 3 0 ps.length c,.no⟩/\(t=47\/t=168\/t=193)/\N<n/\M t N=some (q0g (ps.map prtC))/\(∀ p∈ps,p.ok)/\ps.length * 3<=140737488355328
def Pres (n:Nat) (ex:Option Nat) (M M':Nat->Nat->Option (List Slot)):Prop:=∀ (t N:Nat) (ps:List Prt),(t=47\/t=168\/t=193)->N<n->some N≠ex->M t N=some (q0g (ps.map prtC))->M' t N=some (q0g (ps.map prtC))
theorem Pres.refl (n:Nat) (ex:Option Nat) (M:Nat->Nat->Option (List Slot)):Pres n ex M M:=fun _ _ _ _ _ _ h=>h
theorem Pres.set {n:Nat} {ex:Option Nat} {M M':Nat->Nat->Option (List Slot)} (h:Pres n ex M M') {t' n':Nat} {r:List Slot} (hn:n<=n'\/¬ (t'=47\/t'=168\/t'=193)):Pres n ex M (setM M' t' n' r):=fun t N ps ht hN hx hm=>by
 rw [q0z,if_neg]
 ·exact h t N ps ht hN hx hm
 ·rintro ⟨rfl,rfl⟩;rcases hn with hn | hn
  ·omega
  ·exact hn ht
theorem q88 (ps:List Prt):q2t (ps.map prtC)=true:=q73 prtC ps fun p=>by simp [prtC,AV.free0]
theorem q57 (ps:List Prt):q1f 3 (ps.map prtC)=true:=q1B _ _ _ fun _=>rfl
theorem Pres.kill {n:Nat} {ex:Option Nat} {M M':Nat->Nat->Option (List Slot)} (h:Pres n ex M M') {t' n':Nat} (hn:ex=some n'):Pres n ex M (killM t' n' M'):=fun t N ps ht hN hx hm=>by
 rw [q0B,if_neg,h t N ps ht hN hx hm]
 ·simp only [yt,rowOf_kill (q88 ps)]
 ·rintro ⟨rfl,rfl⟩;exact hx hn.symm
theorem PcI.pres {M M':Nat->Nat->Option (List Slot)} {n n':Nat} {x:Slot} (h:PcI M n x) {ex:Option Nat} (hp:Pres n ex M M') (hn:n<=n') (hx:∀ N,nmM x=some N->some N≠ex):PcI M' n' x:=by
 rcases h with h | ⟨t,N,c,ps,rfl,h1,h2,h3,h4,h5⟩
 ·exact .inl h
 ·exact .inr ⟨t,N,c,ps,rfl,h1,by omega,hp t N ps h1 h2 (hx N rfl) h3,h4,h5⟩
structure NdsI (L:Nat) (M:Nat->Nat->Option (List Slot)) (n:Nat) (xs:List Nd):Prop where
 len:xs.length=L
 row:M 13 2=some (q0n xs)
 num:∀ q∈xs,u8 q.1.k/\u8 q.1.a/\u8 q.1.b/\u8 q.1.c
 pc:∀ q∈xs,PcI M n q.2
 dist:∀ (j k:Nat) (a b:Nd) (N:Nat),j≠k->xs[j]?=some a->xs[k]?=some b->nmM a.2=some N->nmM b.2=some N->False
theorem NdsI.upd {L:Nat} {M M':Nat->Nat->Option (List Slot)} {n n':Nat} {xs:List Nd} (h:NdsI L M n xs) {z:Nat} {q q':Nd} (hz:xs[z]?=some q) (hrow:M' 13 2=some (q0n (xs.set z q'))) (hnum:u8 q'.1.k/\u8 q'.1.a/\u8 q'.1.b/\u8 q'.1.c) (hpc:PcI M' n' q'.2) (hp:Pres n (nmM q.2) M M') (hn:n<=n') (hnew:nmM q'.2=nmM q.2\/∀ N,nmM q'.2=some N->n<=N):NdsI L M' n' (xs.set z q'):=by
 have hzl:=(ye.1 hz).1;have hother:∀ (k:Nat) (b:Nd),k≠z->xs[k]?=some b->PcI M' n' b.2:=fun k b hk hb=>(h.pc b (yo hb)).pres hp hn fun N hN e=>h.dist k z b q N hk hb hz hN e.symm
 have hget:∀ (k:Nat) (b:Nd),(xs.set z q')[k]?=some b->(k=z/\b=q')\/(k≠z/\xs[k]?=some b):=fun k b hb=>by
  rw [List.getElem?_set] at hb;by_cases e:z=k
  ·rw [if_pos e,if_pos hzl] at hb;injection hb with hb;exact .inl ⟨e.symm,hb.symm⟩
  ·rw [if_neg e] at hb;exact .inr ⟨fun h=>e h.symm,hb⟩
 have hlow:∀ (b:Nd) (N:Nat),b∈xs->nmM b.2=some N->N<n:=fun b N hb hN=>by
  rcases h.pc b hb with ⟨nl,ps,a,e,_⟩ | ⟨t,N',c,ps,e,_,h2,_⟩
  ·rw [e] at hN; simp [nmM] at hN
  ·rw [e] at hN; simp [nmM] at hN; omega
 refine ⟨by simp [h.len],hrow,fun b hb=>?_,fun b hb=>?_,fun j k a b N hjk ha hb hNa hNb=>?_⟩
 ·obtain ⟨k,hk,rfl⟩:=yC hb;rcases hget k _ (y7 hk) with ⟨_,e⟩ | ⟨_,e⟩
  ·rw [e]; exact hnum
  ·exact h.num _ (yo e)
 ·obtain ⟨k,hk,rfl⟩:=yC hb;rcases hget k _ (y7 hk) with ⟨_,e⟩ | ⟨hk',e⟩
  ·rw [e]; exact hpc
  ·exact hother k _ hk' e
 ·rcases hget j a ha with ⟨hj,rfl⟩ | ⟨hj,ha'⟩
  ·rcases hget k b hb with ⟨hk,rfl⟩ | ⟨hk,hb'⟩
   ·omega
   ·rcases hnew with e | e
    ·exact h.dist z k q b N (by omega) hz hb' (by rw [<- e]; exact hNa) hNb
    ·have:=e N hNa;have:=hlow b N (yo hb') hNb;omega
  ·rcases hget k b hb with ⟨hk,rfl⟩ | ⟨hk,hb'⟩
   ·rcases hnew with e | e
    ·exact h.dist j z a q N (by omega) ha' hz hNa (by rw [<- e]; exact hNb)
    ·have:=e N hNb;have:=hlow a N (yo ha') hNa;omega
   ·exact h.dist j k a b N hjk ha' hb' hNa hNb
theorem ndsRow_kill {L:Nat} {M:Nat->Nat->Option (List Slot)} {n:Nat} {xs:List Nd} (h:NdsI L M n xs) {z:Nat} {q:Nd} (hz:xs[z]?=some q) {t N:Nat} (hN:nmM q.2=some N):(q0n xs).map (Slot.kill t N)=q0n (xs.set z (q.1,q.2.kill t N)):=by
 have hzl:=(ye.1 hz).1;have e1:xs.map (fun b:Nd=>((b.1,b.2.kill t N):Nd))=xs.set z (q.1,q.2.kill t N):=by
  refine List.ext_getElem? fun k=>?_
  rw [yf,List.getElem?_set];by_cases e:z=k
  ·subst e;rw [if_pos rfl,if_pos hzl,hz];rfl
  ·rw [if_neg e];cases hk:xs[k]? with
   | none=>rfl
   | some b =>
    have hb:b.2.kill t N=b.2:=by
     rcases h.pc b (yo hk) with ⟨nl,ps,a,e',_⟩ | ⟨t',N',c,ps,e',_⟩
     ·rw [e'];show (⟨AV.kill t N (.sl nl (ps.map prtC)),a⟩:Slot)=_;rfl
     ·have hne:N'≠N:=fun e2=>h.dist k z b q N (fun e3=>e e3.symm) hk hz (by rw [e',e2]; rfl) hN
      rw [e'];simp [Slot.kill_mk,AV.kill,AV.kill0,hne]
    simp only [yt,hb]
 rw [<- e1];unfold q0n;rw [List.map_flatMap,List.flatMap_map];congr 1
structure ChI (cn:Bool) (cs:List Chg) (L i:Nat) (xs:List Nd) (s:MSt):Prop where
 e1:(s.env 1).v=.sl cn (cs.map chgC)
 e4:(s.env 4).v=.ptr 4 1 0
 e5:(s.env 5).v=.ptr 5 2 0
 e6:(s.env 6).v=.int .i64 i
 m4:s.mem 4 1=some [⟨.sl true [],.ex⟩]
 m5:s.mem 5 2=some [⟨.ref 13 2 5 0 L L,.no⟩]
 nds:NdsI L s.mem s.next xs
 nx:2<s.next
def OwnP (s:MSt) (ps:List Prt) (pc:Slot):Prop:=(ps=[]/\pc=⟨.sl false [],.ex⟩)\/(ps≠[]/\∃ N,pc=⟨.ref 47 N 3 0 ps.length ps.length,.no⟩/\N<s.next/\s.mem 47 N=some (q0g (ps.map prtC)))
structure ChT (cn:Bool) (cs:List Chg) (L i:Nat) (xs:List Nd) (c:Chg) (z:Nat) (x:Nde) (pc:Slot) (ps:List Prt) (s:MSt):Prop where
 ch:ChI cn cs L i xs s
 e7:∃ n7,(s.env 7).v=.ptr 7 n7 0/\s.mem 7 n7=some (q6z c)
 e8:(s.env 8).v=.ptr 13 2 (z * 5)
 e9:∃ kk:Nat,(s.env 9).v=.int .i64 kk/\(ps≠[]->kk<ps.length)
 e67:(s.env 67).v=.int .u8 (c.kind % 8)
 hz:xs[z]?=some (x,pc)
 pcs:OwnP s ps pc
 ok:∀ p∈ps,p.ok
 sz:ps.length * 3<=140737488355328
theorem chg_head {r:RV} {cn:Bool} {cs:List Chg} {L i:Nat} (hi:i<cs.length) (hcl:cs.length<=9223372036854775807) (hok:∀ c∈cs,c.ok) (hL0:0<L) (hL1:L<=140737488355328) {xs:List Nd} {s:MSt} (h:ChI cn cs L i xs s) (k:Ex->MSt->Option RV)
  (hk:∀ s' xs' c z x pc ps (kk:Ex->MSt->Option RV),c∈cs->ChT cn cs L i xs' c z x pc ps s'->(∀ s2 xs2,ChI cn cs L i xs2 s2->kk .nrm s2=some r)->q18.run (evC allT q01) (evK allT q01) s' kk=some r)
  (ih:∀ s' xs',ChI cn cs L (i + 1) xs' s'->evL allT q01 q19 s' k=some r):evL allT q01 q19 s k=some r:=by
 obtain ⟨e1,e4,e5,e6,m4,m5,nds,nx⟩:=h;refine q04 ?_;have hlt':(i:Int)<cs.length:=by omega
 have g1:(cs.map chgC)[i]?=some (chgC cs[i]):=by simp [hi]
 have hwi:=q11 (i:=i) (by omega);have hcm:=y8 hi;have hco:=hok _ hcm;generalize cs[i]=c at *
 obtain ⟨⟨k1,k2⟩,⟨n1,n2⟩,⟨a1,a2⟩,b1,b2⟩:=hco;simp only [chgC] at g1;have hwn:IntKind.i64.wrap c.node=c.node:=IntWalk.i64_in _ (by omega);have hwa:IntKind.i64.wrap c.a=c.a:=IntWalk.i64_in _ (by omega);have hm:c.node.tmod L=c.node % L:=yw (by omega);have hz0:=yI c.node (b:=(L:Int)) (by omega);have hz1:=yN c.node (b:=(L:Int)) (by omega);have h8:c.kind.tmod 8=c.kind % 8:=yw (by omega);have hLi:(0:Int)<L:=by omega
 have hLn:¬ L=0:=by omega
 generalize c.node % (L:Int)=zz at *
 have hzl:zz.toNat<xs.length:=by rw [nds.len]; omega
 obtain ⟨q,hq⟩:∃ q,xs[zz.toNat]?=some q:=⟨_,y7 hzl⟩;obtain ⟨x,pc⟩:=q;have hnum:=nds.num _ (yo hq);have g46:(q0n xs)[zz.toNat * 5 + 4]?=some pc:=q2D hq 4 (by omega);have cont:∀ (s2:MSt) (xs2:List Nd) (E:Nat->Slot),ChI cn cs L i xs2 s2->s2.env=E->ChI cn cs L (i + 1) xs2 ⟨putE (putE (putE E 25 ⟨.int .i64 i,(E 6).a⟩) 26 ⟨.int .i64 ((i + 1:Nat):Int),.no⟩) 6 ⟨.int .i64 ((i + 1:Nat):Int),.no⟩,s2.mem,s2.next + 1,s2.obj,s2.gh⟩:=fun s2 xs2 E h he=>by
  subst he;obtain ⟨e1,e4,e5,e6,m4,m5,nds,nx⟩:=h;exact ⟨by simp [e1],by simp [e4],by simp [e5],by simp,m4,m5,⟨nds.len,nds.row,nds.num,fun q hq=>(nds.pc q hq).pres (ex:=none) (Pres.refl _ _ _) (by dsimp only; omega) (by simp),nds.dist⟩,by dsimp only; omega⟩
 have fin:∀ (s':MSt) (xs':List Nd) (pc':Slot) (ps:List Prt),ChT cn cs L i xs' c zz.toNat x pc' ps s'->q18.run (evC allT q01) (evK allT q01) s' (blkK 1 (seqK (evC allT q01) (evK allT q01) (.reg [⟨some 25,.mv (.t 6),none⟩,⟨some 26,.bin .add false (.t 25) (.c (.int .i64 1)),none⟩,⟨some 6,.mv (.t 26),none⟩]) (q8r (evL allT q01) q19 k)))=some r:=fun s' xs' pc' ps hT=>by
  refine hk s' xs' c _ x pc' ps _ hcm hT (fun s2 xs2 h2=>?_);have e6:=h2.e6;simp [-y0,-y5,-y4,y3,e6,hwi];exact ih _ _ (cont s2 xs2 _ h2 rfl)
 rw [chg_L1];have hpc:=nds.pc _ (yo hq);have hex:∃ ps:List Prt,(∀ p∈ps,p.ok)/\ps.length * 3<=140737488355328/\((∃ nl a,pc=⟨.sl nl (ps.map prtC),a⟩)\/∃ t N c0,pc=⟨.ref t N 3 0 ps.length c0,.no⟩/\(t=47\/t=168\/t=193)/\N<s.next/\s.mem t N=some (q0g (ps.map prtC))):=by
  rcases hpc with ⟨nl,ps,a,h1,_,h3,h4⟩ | ⟨t,N,c0,ps,h1,h2,h3,h4,h5,h6⟩
  ·exact ⟨ps,h3,h4,.inl ⟨nl,a,h1⟩⟩
  ·exact ⟨ps,h5,h6,.inr ⟨t,N,c0,h1,h2,h3,h4⟩⟩
 obtain ⟨ps,hpo,hps,hcase⟩:=hex;have m13:=nds.row;have hst0:=q2p (q':=(x,⟨.sl false [],.ex⟩)) hq 4 (by omega) (.sl false []) .ex rfl rfl;have hst1:∀ n,q0i false 1 (zz.toNat * 5 + 4) (q0n xs) (.ref 47 n 3 0 ps.length ps.length) .no=some (q0n (xs.set zz.toNat (x,⟨.ref 47 n 3 0 ps.length ps.length,.no⟩))):=fun n=>q2p hq 4 (by omega) _ .no rfl rfl
 have hgz:∀ y,(xs.set zz.toNat (x,y))[zz.toNat]?=some (x,y):=fun y=>List.getElem?_set_self hzl
 have hg0:=q2D (hgz ⟨.sl false [],.ex⟩) 4 (by omega);have hg1:∀ n,(q0n (xs.set zz.toNat (x,⟨.ref 47 n 3 0 ps.length ps.length,.no⟩)))[zz.toNat * 5 + 4]?=some ⟨.ref 47 n 3 0 ps.length ps.length,.no⟩:=fun n=>q2D (hgz _) 4 (by omega)
 have hg0':(q0n (xs.set zz.toNat (x,⟨.sl false [],.ex⟩)))[zz.toNat * 5 + 4]?=some ⟨.sl false [],.ex⟩:=hg0;clear hg0;have hroom:q10 3 ps.length=true:=by rw [q0l]; omega
 have hroom0:q10 3 0=true:=by decide
 have hre:q3u (q0g (ps.map prtC)) 3 0 ps.length=some (ps.map prtC):=by
  have:=q5W (q57 ps) (q88 ps);simpa using this
 have q3:=q57 ps;have fr:∀ (n':Nat) (M':Nat->Nat->Option (List Slot)) (y:Slot),PcI M' n' y->Pres s.next (nmM pc) s.mem M'->s.next<=n'->M' 13 2=some (q0n (xs.set zz.toNat (x,y)))->(nmM y=nmM pc\/∀ N,nmM y=some N->s.next<=N)->NdsI L M' n' (xs.set zz.toNat (x,y)):=fun n' M' y h1 h2 h3 h4 h5=>nds.upd hq h4 hnum h1 h2 h3 h5
 by_cases hne:ps=[]
 ·have hpc0:∀ M' n',PcI M' n' ⟨.sl false [],.ex⟩:=fun M' n'=>.inl ⟨false,[],.ex,rfl,.inr rfl,by simp,by simp⟩
  rcases hcase with ⟨nl,a,rfl⟩ | ⟨t,N,c0,rfl,ht,hN,hmt⟩
  ·subst hne;simp at g46;generalize hR0:q0n xs=R0 at *
   generalize hR1:q0n (xs.set zz.toNat (x,⟨.sl false [],.ex⟩))=R1 at *
   simp [-y0,-y5,-y4,y3,-q17,-q0i,q0K,q0U,q0p,q0q,e1,e4,e5,e6,m4,m5,m13,hlt',g1,hLi,hLn,hL0,hwn,hm,hz0,hz1,h8,g46,hwi,hst0,hg0',hroom0];refine fin _ (xs.set zz.toNat (x,⟨.sl false [],.ex⟩)) ⟨.sl false [],.ex⟩ [] ⟨⟨?_,?_,?_,?_,?_,?_,fr _ _ _ ?_ ?_ ?_ ?_ ?_,?_⟩,⟨s.next + 1,?_,?_⟩,?_,⟨0,?_,?_⟩,?_,hgz _,.inl ⟨rfl,rfl⟩,hpo,hps⟩
   ·simp [e1]
   ·simp [e4]
   ·simp [e5]
   ·simp [e6]
   ·simp [m4]
   ·simp [m5]
   ·exact hpc0 _ _
   ·dsimp only
    repeat (first | exact Pres.refl _ _ _ | refine Pres.set ?_ (.inr (by decide)) | refine Pres.set ?_ (.inl (by omega)))
   ·dsimp only; omega
   ·simp [hR1]
   ·right;intro N hN;simp [nmM] at hN
    try omega
   ·dsimp only; omega
   ·simp
   ·simp [q6z]
   ·simp
   ·simp
   ·first | (intro _; omega) | simp
   ·simp
  ·subst hne;simp at g46 hmt hre;generalize hR0:q0n xs=R0 at *
   generalize hR1:q0n (xs.set zz.toNat (x,⟨.sl false [],.ex⟩))=R1 at *
   have h7:¬ t=7:=by omega
   simp [-y0,-y5,-y4,y3,-q17,-q0i,q0K,q0U,q0p,q0q,e1,e4,e5,e6,m4,m5,m13,hlt',g1,hLi,hLn,hL0,hwn,hm,hz0,hz1,h8,g46,hwi,hst0,hg0',hroom0,hmt,hre,Cl.okMem,h7];refine fin _ (xs.set zz.toNat (x,⟨.sl false [],.ex⟩)) ⟨.sl false [],.ex⟩ [] ⟨⟨?_,?_,?_,?_,?_,?_,fr _ _ _ ?_ ?_ ?_ ?_ ?_,?_⟩,⟨s.next + 1,?_,?_⟩,?_,⟨0,?_,?_⟩,?_,hgz _,.inl ⟨rfl,rfl⟩,hpo,hps⟩
   ·simp [e1]
   ·simp [e4]
   ·simp [e5]
   ·simp [e6]
   ·simp [m4]
   ·simp [m5]
   ·exact hpc0 _ _
   ·dsimp only
    repeat (first | exact Pres.refl _ _ _ | refine Pres.set ?_ (.inr (by decide)) | refine Pres.set ?_ (.inl (by omega)))
   ·dsimp only; omega
   ·simp [hR1]
   ·right;intro N hN;simp [nmM] at hN
    try omega
   ·dsimp only; omega
   ·simp
   ·simp [q6z]
   ·simp
   ·simp
   ·first | (intro _; omega) | simp
   ·simp
 ·have hie:ps.isEmpty=false:=by simpa using hne
  have hlp:0<ps.length:=List.length_pos_iff.2 hne;have hlpi:(0:Int)<ps.length:=by omega
  have hln:¬ ps.length=0:=by omega
  have hma:c.a.tmod ps.length=c.a % ps.length:=yw (by omega);have hk0:=yI c.a (b:=(ps.length:Int)) (by omega);have hk1:=yN c.a (b:=(ps.length:Int)) (by omega);obtain ⟨kk,hkk⟩:∃ kk:Nat,c.a % (ps.length:Int)=kk:=⟨(c.a % (ps.length:Int)).toNat,by omega⟩;rw [hkk] at hma hk1;obtain ⟨R1,hR1'⟩:∃ R1:Nat->List Slot,∀ n,q0n (xs.set zz.toNat (x,⟨.ref 47 n 3 0 ps.length ps.length,.no⟩))=R1 n:=⟨_,fun n=>rfl⟩;simp only [hR1'] at hst1 hg1;rcases hcase with ⟨nl,a,rfl⟩ | ⟨t,N,c0,rfl,ht,hN,hmt⟩
  ·generalize hR0:q0n xs=R0 at *
   simp [-y0,-y5,-y4,y3,-q17,-q0i,q0K,q0U,q0p,q0q,e1,e4,e5,e6,m4,m5,m13,hlt',g1,hLi,hLn,hL0,hwn,hm,hz0,hz1,h8,g46,hwi,hst1,hg1,hroom,q3,hie,hne,hlp,hlpi,hln,hwa,hma];refine fin _ (xs.set zz.toNat (x,⟨.ref 47 (s.next + 3) 3 0 ps.length ps.length,.no⟩)) ⟨.ref 47 (s.next + 3) 3 0 ps.length ps.length,.no⟩ ps ⟨⟨?_,?_,?_,?_,?_,?_,fr _ _ _ ?_ ?_ ?_ ?_ ?_,?_⟩,⟨s.next + 1,?_,?_⟩,?_,⟨kk,?_,?_⟩,?_,hgz _,.inr ⟨hne,s.next + 3,rfl,by dsimp only; omega,by simp⟩,hpo,hps⟩
   ·simp [e1]
   ·simp [e4]
   ·simp [e5]
   ·simp [e6]
   ·simp [m4]
   ·simp [m5]
   ·exact .inr ⟨47,s.next + 3,ps.length,ps,rfl,.inl rfl,by dsimp only; omega,by simp,hpo,hps⟩
   ·dsimp only
    repeat (first | exact Pres.refl _ _ _ | refine Pres.set ?_ (.inr (by decide)) | refine Pres.set ?_ (.inl (by omega)))
   ·dsimp only; omega
   ·simp [<- hR1']
   ·right;intro N hN;simp [nmM] at hN
    try omega
   ·dsimp only; omega
   ·simp
   ·simp [q6z]
   ·simp
   ·simp
   ·first | (intro _; omega) | simp
   ·simp
  ·generalize hR0:q0n xs=R0 at *
   have h7:¬ t=7:=by omega
   simp [-y0,-y5,-y4,y3,-q17,-q0i,q0K,q0U,q0p,q0q,e1,e4,e5,e6,m4,m5,m13,hlt',g1,hLi,hLn,hL0,hwn,hm,hz0,hz1,h8,g46,hwi,hst1,hg1,hroom,q3,hie,hne,hlp,hlpi,hln,hwa,hma,hmt,hre,Cl.okMem,h7];refine fin _ (xs.set zz.toNat (x,⟨.ref 47 (s.next + 3) 3 0 ps.length ps.length,.no⟩)) ⟨.ref 47 (s.next + 3) 3 0 ps.length ps.length,.no⟩ ps ⟨⟨?_,?_,?_,?_,?_,?_,fr _ _ _ ?_ ?_ ?_ ?_ ?_,?_⟩,⟨s.next + 1,?_,?_⟩,?_,⟨kk,?_,?_⟩,?_,hgz _,.inr ⟨hne,s.next + 3,rfl,by dsimp only; omega,by simp⟩,hpo,hps⟩
   ·simp [e1]
   ·simp [e4]
   ·simp [e5]
   ·simp [e6]
   ·simp [m4]
   ·simp [m5]
   ·exact .inr ⟨47,s.next + 3,ps.length,ps,rfl,.inl rfl,by dsimp only; omega,by simp,hpo,hps⟩
   ·dsimp only
    repeat (first | exact Pres.refl _ _ _ | refine Pres.set ?_ (.inr (by decide)) | refine Pres.set ?_ (.inl (by omega)))
   ·dsimp only; omega
   ·simp [<- hR1']
   ·right;intro N hN;simp [nmM] at hN
    try omega
   ·dsimp only; omega
   ·simp
   ·simp [q6z]
   ·simp
   ·simp
   ·first | (intro _; omega) | simp
   ·simp
section
set_option maxHeartbeats 4000000
def Stay (p n8:Nat) (M M':Nat->Nat->Option (List Slot)):Prop:=∀ t n,¬ (t=p/\n=n8)->(∀ r,M t n=some r->∀ x∈r,qa0 x)->M' t n=M t n
theorem Stay.refl {p n8:Nat} {M:Nat->Nat->Option (List Slot)}:Stay p n8 M M:=fun _ _ _ _=>rfl
theorem Stay.strip {p n8:Nat} {M M':Nat->Nat->Option (List Slot)} (h:Stay p n8 M M') (k:Nat):Stay p n8 M (stripM k M'):=fun t n h1 h2=>by
 rw [stripM_at,h t n h1 h2];cases hr:M t n with
 | none=>rfl
 | some r =>
  refine congrArg some ?_;have:r.map (Slot.strip k)=r.map id:=yq fun x hx=>h2 r hr x hx k
  rwa [List.map_id] at this
theorem Stay.set {p n8:Nat} {M M':Nat->Nat->Option (List Slot)} (h:Stay p n8 M M') {r:List Slot}:Stay p n8 M (setM M' p n8 r):=fun t n h1 h2=>by
 rw [q0z,if_neg h1];exact h t n h1 h2
def q5L (nm:ByteArray) (op:Bool) (S:List Sym) (b:Bool) (a:An):List Slot:=[⟨.int .i64 4,.no⟩,⟨.str nm,.no⟩,⟨.int .i64 0,.no⟩,⟨.int .i64 0,.no⟩,⟨.int .i64 0,.no⟩,⟨.sl b (S.map symC),a⟩,⟨.sl true [],.no⟩,⟨.int .i64 0,.no⟩,⟨.int .i64 0,.no⟩,⟨.bool op,.no⟩]
theorem idl_rng (a:Int):∀ i,∀ d∈idl a i,1<=d/\d<=i
 | 0,d,h=>by cases h
 | i + 1,d,h=>by
  rw [idl] at h;rcases yA.1 h with h | h
  ·have:=idl_rng a i d h; omega
  ·split at h
   ·simp at h; omega
   ·cases h
theorem idsZ_rng (a:Int):∀ d∈idsZ a,1<=d/\d<=6:=fun d h=>by
 unfold idsZ at h;split at h
 ·simp at h; omega
 ·have:=idl_rng a 6 d h; omega
theorem esyms_ev {r:RV} {a:Int} {n8:Nat} {nm:ByteArray} {op:Bool} (s0:MSt) (k:Ex->MSt->Option RV)
  (h9:(s0.env 9).v=.sl false ((idsZ a).map q7I)) (h10:(s0.env 10).v=.int .i64 0) (h8:(s0.env 8).v=.ptr 8 n8 0) (hlt:n8<s0.next) (hm:s0.mem 8 n8=some (q5L nm op [] true .no)) (hG:PureE s0.gh) (hL:LowM s0.next s0.mem) (hE:LowE s0.next s0.env)
  (hk:∀ s',(∀ t,t<9->(s'.env t).v=(s0.env t).v)->Stay 8 n8 s0.mem s'.mem->s'.gh=s0.gh->s'.obj=s0.obj->s0.next<=s'.next->LowM s'.next s'.mem->LowE s'.next s'.env->(∃ an,s'.mem 8 n8=some (q5L nm op (q6s a) false an))->k (.exit 3) s'=some r):evL allT q01 q3o s0 k=some r:=by
 have hil:=qb4 a;refine q0f (idsZ a).length (fun i s=>(∀ t,t<10->(s.env t).v=(s0.env t).v)/\(s.env 10).v=.int .i64 i/\Stay 8 n8 s0.mem s.mem/\s.gh=s0.gh/\s.obj=s0.obj/\s0.next<=s.next/\LowM s.next s.mem/\LowE s.next s.env/\(i=0/\s.mem 8 n8=some (q5L nm op [] true .no)\/¬ i=0/\s.mem 8 n8=some (q5L nm op ((q6s a).take i) false (.own 91 137))))
  (fun e s=>e=.exit 3/\(∀ t,t<9->(s.env t).v=(s0.env t).v)/\Stay 8 n8 s0.mem s.mem/\s.gh=s0.gh/\s.obj=s0.obj/\s0.next<=s.next/\LowM s.next s.mem/\LowE s.next s.env/\∃ an,s.mem 8 n8=some (q5L nm op (q6s a) false an)) (fun i hi s k h ih hk=>?_) s0 k ⟨fun _ _=>rfl,by simpa using h10,Stay.refl,rfl,rfl,ym _,hL,hE,.inl ⟨rfl,hm⟩⟩ (fun e s h=>by obtain ⟨rfl,h1,h2,h3,h4,h5,h6,h7,h8⟩:=h; exact hk s h1 h2 h3 h4 h5 h6 h7 h8)
 obtain ⟨he,e10,hst,hg,ho,hn,hL,hE,hrow⟩:=h;have e9:=(he 9 (by omega)).trans h9;have e8:=(he 8 (by omega)).trans h8;refine q04 ?_;by_cases hlt':i<(idsZ a).length
 ·have hlti:(i:Int)<(idsZ a).length:=by omega
  have hwi:=q11 (i:=i) (by omega);have g1:((idsZ a).map q7I)[i]?=some (q7I (idsZ a)[i]):=by simp [hlt']
  have hd:=idsZ_rng a _ (y8 hlt');have htk:(q6s a).take (i + 1)=(q6s a).take i++[⟨(idsZ a)[i],sName (idsZ a)[i]⟩]:=by
   have hl:i<(q6s a).length:=by simpa [q6s] using hlt'
   rw [<- yR hl];simp [q6s]
  have hsl:((q6s a).take i).length=i:=by simp [q6s]; omega
  generalize (idsZ a)[i]=d at *
  have hlm:((idsZ a).map q7I).length=(idsZ a).length:=by simp
  generalize (idsZ a).map q7I=D at *
  generalize hS:(q6s a).take i=S at *
  obtain ⟨z,hz⟩:∃ z:Int,z=i:=⟨_,rfl⟩;have hz0:0<=z:=by omega
  have hwz:IntKind.i64.wrap (z + 1)=((i + 1:Nat):Int):=by rw [hz]; exact hwi
  rw [<- hz] at e10 hlti;rw [show i=z.toNat from by omega] at g1;simp only [q7I] at g1;have hw97:IntKind.i64.wrap (97 + d)=97 + d:=IntWalk.i64_in _ (by omega);have hw32:IntKind.i32.wrap (97 + d)=97 + d:=i32_in _ (by omega);have hes:=enc_size (97 + d);have hsz:(⟨#[115]⟩:ByteArray).size=1:=rfl;have hnm:(⟨#[115]⟩:ByteArray).size + (Utf8.encode (97 + d)).size<=9223372036854775807:=by omega
  unfold sName at htk;generalize hEn:Utf8.encode (97 + d)=en at *
  have hroom:q10 24 (i + 1)=true:=by rw [q0l]; omega
  have hels:=els_sym S;rcases hrow with ⟨hi0,hr⟩ | ⟨hi0,hr⟩
  ·have hS0:S=[]:=by rw [<- hS,hi0]; rfl
   subst hS0;subst hi0;simp only [q5L,yn] at hr;simp [q3o,-y0,-y5,-y4,y3,e8,e9,e10,hlm,hlti,hz0,g1,hw97,hw32,hEn,hnm,hr,hroom,hwz];refine ih hlt' _ ⟨fun t ht=>?_,?_,?_,?_,ho,?_,?_,?_,.inr ⟨by omega,?_⟩⟩
   ·have:=he t ht;have q:∀ c,10<=c->¬ t=c:=fun c hc=>by omega
    simp [q,this]
   ·simp
   ·repeat (first | exact hst | refine Stay.set ?_ | refine Stay.strip ?_ _)
   ·simp only [hg,hG.same]
   ·dsimp only; omega
   ·exact ((hL.mono (by dsimp only; omega)).strip 91).set (q05 (by simp [AV.free,AV.free0]))
   ·dsimp only
    repeat (first | exact hE.mono (by omega) | refine LowE.put ?_ (fun _ _ _=>rfl) | refine LowE.put ?_ (q1F (by omega)) | refine LowE.strip ?_ _)
   ·simp [q5L,htk,symC]
  ·simp only [q5L] at hr;simp [q3o,-y0,-y5,-y4,y3,e8,e9,e10,hlm,hlti,hz0,g1,hw97,hw32,hEn,hnm,hr,hsl,hels,hroom,hwz];refine ih hlt' _ ⟨fun t ht=>?_,?_,?_,?_,ho,?_,?_,?_,.inr ⟨by omega,?_⟩⟩
   ·have:=he t ht;have q:∀ c,10<=c->¬ t=c:=fun c hc=>by omega
    simp [q,this]
   ·simp
   ·repeat (first | exact hst | refine Stay.set ?_ | refine Stay.strip ?_ _)
   ·simp only [hg,hG.same]
   ·dsimp only; omega
   ·exact (((hL.mono (by dsimp only; omega)).strip 91).strip 91).set (q05 (by simp [AV.free,AV.free0]))
   ·dsimp only
    repeat (first | exact hE.mono (by omega) | refine LowE.put ?_ (fun _ _ _=>rfl) | refine LowE.put ?_ (q1F (by omega)) | refine LowE.strip ?_ _)
   ·simp [q5L,htk,symC]
 ·have hie:i=(idsZ a).length:=by omega
  have hlti:¬ (i:Int)<(idsZ a).length:=by omega
  simp [q3o,-y0,-y5,-y4,y3,e9,e10,hlt'];have hi0:¬ i=0:=by omega
  rcases hrow with ⟨h0,_⟩ | ⟨_,hr⟩
  ·exact absurd h0 hi0
  ·rw [yO (by simp [q6s]; omega)] at hr;refine hk _ _ ⟨rfl,fun t ht=>?_,hst,hg,ho,by dsimp only; omega,hL.mono (by dsimp only; omega),?_,_,hr⟩
   ·have:=he t (by omega);simp [show ¬ t=69 from by omega,show ¬ t=70 from by omega,show ¬ t=71 from by omega,show ¬ t=72 from by omega,this]
   ·dsimp only
    repeat (first | exact hE.mono (by omega) | refine LowE.put ?_ (fun _ _ _=>rfl))
end
section
set_option maxHeartbeats 4000000
def q26:C:=.reg [oF 164 0 5,oL 165 164,oA 166 10 8,oS 167 (.bslr 10 zze 1 [(0,(.t 166))]),oS 168 (.appn .any 132 10 120 (.t 165) (.t 167)),oF 169 0 5,oW 169 168]
def q16:C:=oR [oF 26 0 1,oL 27 26,oM 28 6,oI 29 5 27 28,oA 30 5 29,oY 7 zzd,oV 5 7 30] (.seq (.reg [oA 31 1 1,oM 32 6,oS 33 (.call .any 87 [(.t 31),(.t 32)]),oS 34 (.build zze [(0,(1,(.t 33)))]),oY 8 zze,oV 10 8 34]) (.seq (.seq (.reg [oF 35 0 8,oL 36 35,oS 37 (.call .any 88 [(.t 36)])]) (.cond (.t 37) (.reg [oM 38 6,oS 39 (.bin .add false (.c (.int .i64 65)) (.t 38)),oS 40 (.conv (.some .i32) (.t 39)),oS 41 (.rstr (.t 40)),oF 42 1 8,oW 42 41]) .skip)) (.seq (oR [oF 43 0 8,oL 44 43] (.block 2 (oR [oC 46 .eql 44 2,oM 45 46] (.cond (.t 45) (.reg [oS 47 (.load (.root 7) true 5 (.t 7)),oS 48 (.call .any 89 [(.t 47)]),oS 49 (.load (.root 7) true 5 (.t 7)),oS 50 (.call .any 90 [(.t 49)]),oF 51 2 8,oN (.store (.root 8) false 1 (.t 51) (.t 48)),oF 52 3 8,oN (.store (.root 8) false 1 (.t 52) (.t 50))]) (oR [oC 54 .eql 44 3,oM 53 54] (.cond (.t 53) (.reg [oF 55 1 7,oL 56 55,oS 57 (.bin .rem false (.t 56) (.c (.int .u8 4))),oS 58 (.conv (.some .i64) (.t 57)),oF 59 4 8,oW 59 58]) (oR [oC 61 .eql 44 4,oM 60 61] (.cond (.t 60) (.seq (.reg [oF 62 2 7,oL 63 62,oS 64 (.bin .rem false (.t 63) (.c (.int .u8 2))),oS 65 (.bin .eql false (.t 64) (.c (.int .u8 1))),oF 66 9 8,oW 66 65]) (.seq (.reg [oA 67 5 7,oS 68 (.call .any 91 [(.t 67)]),oM 9 68]) (oR [oJ 10 0] (.block 3 (.loop q3o))))) (oR [oC 94 .eql 44 5,oM 93 94] (.cond (.t 93) (.reg [oA 95 1 1,oM 96 6,oS 97 (.callh 171 (.c (.fn 92 [])) [(.t 95),(.t 96),(.c (.bool true))]),oF 98 6 8,oW 98 97]) (oR [oC 100 .eql 44 6,oM 99 100] (.cond (.t 99) (.seq (.reg [oF 101 2 7,oL 102 101,oS 103 (.bin .rem false (.t 102) (.c (.int .u8 2))),oS 104 (.bin .eql false (.t 103) (.c (.int .u8 1))),oF 105 9 8,oW 105 104]) (.seq (.reg [oA 106 1 1,oM 107 6,oS 108 (.callh 171 (.c (.fn 92 [])) [(.t 106),(.t 107),(.c (.bool false))]),oF 109 6 8,oW 109 108]) (oR [oF 110 6 8,oL 111 110,oH 112 111,oC 113 .eql 112 0] (.cond (.t 113) (.reg [oF 114 1 8,oL 115 114,oS 116 (.build zze [(0,(1,(.c (.int .i64 5)))),(1,(1,(.t 115)))]),oV 10 8 116]) .skip)))) (oR [oC 118 .eql 44 7,oM 117 118] (.cond (.t 117) (.reg [oF 119 1 7,oS 120 (.load (.root 7) false 1 (.t 119)),oS 121 (.bin .rem false (.t 120) (.c (.int .u8 4))),oS 122 (.conv (.some .i64) (.t 121)),oF 123 3 7,oS 124 (.load (.root 7) false 1 (.t 123)),oS 125 (.conv (.some .i64) (.t 124)),oM 126 4,oB 127 .rem 125 126,oF 128 4 8,oN (.store (.root 8) false 1 (.t 128) (.t 122)),oF 129 8 8,oN (.store (.root 8) false 1 (.t 129) (.t 127))]) (oR [oC 131 .eql 44 8,oM 130 131] (.cond (.t 130) (.seq (.reg [oF 132 1 7,oS 133 (.load (.root 7) false 1 (.t 132)),oS 134 (.bin .rem false (.t 133) (.c (.int .u8 4))),oS 135 (.conv (.some .i64) (.t 134)),oS 136 (.load (.root 1) true 1 (.t 1)),oF 137 2 7,oS 138 (.load (.root 7) false 1 (.t 137)),oS 139 (.call .any 93 [(.t 136),(.t 138)]),oF 140 3 7,oS 141 (.load (.root 7) false 1 (.t 140)),oS 142 (.conv (.some .i64) (.t 141)),oM 143 4,oB 144 .rem 142 143,oF 145 4 8,oN (.store (.root 8) false 1 (.t 145) (.t 135)),oF 146 7 8,oN (.store (.root 8) false 1 (.t 146) (.t 139)),oF 147 8 8,oN (.store (.root 8) false 1 (.t 147) (.t 144))]) (oR [oF 148 7 8,oL 149 148,oC 150 .lss 149 0] (.cond (.t 150) (.reg [oF 151 4 8,oL 152 151,oF 153 8 8,oL 154 153,oS 155 (.build zze [(0,(1,(.c (.int .i64 7)))),(4,(1,(.t 152))),(8,(1,(.t 154)))]),oV 10 8 155]) .skip))) (oR [oC 157 .eql 44 9,oM 156 157] (.cond (.t 156) (.reg [oF 158 3 7,oL 159 158,oS 160 (.conv (.some .i64) (.t 159)),oM 161 4,oB 162 .rem 160 161,oF 163 8 8,oW 163 162]) .skip)))))))))))))))))) q26)))
theorem of_L2:q8W=.seq (.seq (.reg [⟨(.some 21),(.mv (.t 6)),.none⟩,⟨(.some 22),(.mv (.t 4)),.none⟩,⟨(.some 23),(.bin .lss .false (.t 21) (.t 22)),.none⟩]) (.cond (.t 23) .skip (.exit 0))) (.seq (.block 1 q16) (.reg [⟨(.some 24),(.mv (.t 6)),.none⟩,⟨(.some 25),(.bin .add .false (.t 24) (.c (.int .i64 1))),.none⟩,⟨(.some 6),(.mv (.t 25)),.none⟩])):=rfl
def M5I (n0:Nat) (l:List Nde) (i:Nat) (s:MSt):Prop :=
 (i=0/\∃ a,s.mem 5 (n0 + 3)=some [⟨.sl true [],a⟩]/\qa0 ⟨.sl true [],a⟩)\/∃ N L,¬ i=0/\s.mem 5 (n0 + 3)=some [⟨.ref 168 N 10 0 i i,.no⟩]/\n0<=N/\N<s.next/\s.mem 168 N=some (q0g L)/\L.length=i/\q6T ((List.range i).map fun (j:Nat)=>typZ l (j:Int)) L s
theorem M5I.keep {n0:Nat} {l:List Nde} {i:Nat} {s s':MSt} (h:M5I n0 l i s) (h5:s'.mem 5 (n0 + 3)=s.mem 5 (n0 + 3)) (h168:∀ N,N<s.next->s'.mem 168 N=s.mem 168 N) (h88:∀ N,N<s.next->s'.mem 88 N=s.mem 88 N) (hn:s.next<=s'.next):M5I n0 l i s':=by
 rcases h with ⟨h1,a,h2,h3⟩ | ⟨N,L,h1,h2,h0,h3,h4,h6,h7⟩
 ·exact .inl ⟨h1,a,h5.trans h2,h3⟩
 ·exact .inr ⟨N,L,h1,h5.trans h2,h0,yX h3 hn,(h168 N h3).trans h4,h6,h7.keep h88 hn⟩
structure OfI (n0:Nat) (s0:MSt) (dn:Bool) (l:List Nde) (i:Nat) (s:MSt):Prop where
 e1:(s.env 1).v=.ptr 1 n0 0
 m1:s.mem 1 n0=some [⟨.sl dn (l.map ndeC),.no⟩]
 e2:(s.env 2).v=.ptr 2 n0 0
 m2:∃ a,s.mem 2 n0=some [⟨.sl true [],a⟩]/\qa0 ⟨.sl true [],a⟩
 e4:(s.env 4).v=.int .i64 l.length
 e5:(s.env 5).v=.ptr 5 (n0 + 3) 0
 e6:(s.env 6).v=.int .i64 i
 m5:M5I n0 l i s
 calm:Calm n0 s0 s
 lowE:LowE s.next s.env
 lt:n0 + 3<s.next
structure q8Q (n0:Nat) (s0:MSt) (dn:Bool) (l:List Nde) (i:Nat) (n8:Nat) (s:MSt):Prop where
 ofI:OfI n0 s0 dn l i s
 e8:(s.env 8).v=.ptr 8 n8 0
 lt8:n8<s.next
 row:∃ m r,s.mem 8 n8=some r/\r.map (·.v)=typL (typZ l (i:Int)) m/\q6Q (typZ l (i:Int)).mems m s
theorem kind1_ev {r:RV} {n0:Nat} {s0:MSt} {dn:Bool} {l:List Nde} (hl:oks l) {i:Nat} (hi:i<l.length) {s:MSt} {k:Ex->MSt->Option RV} (h:OfI n0 s0 dn l i s) (hk1:(ndAt l (i:Int)).kind=1) (hk:∀ n8 s',q8Q n0 s0 dn l i n8 s'->q26.run (evC allT q01) (evK allT q01) s' k=some r):q16.run (evC allT q01) (evK allT q01) s k=some r:=by
 obtain ⟨e1,m1,e2,m2,e4,e5,e6,m5,⟨cm,cg,co,cn,cl⟩,lowE,lt⟩:=h;have hkd:=q4y (dn:=dn) hl (z:=(i:Int)) (by omega) (by omega);have g:l[i]?=some l[i]:=y7 hi;have gm:(l.map ndeC)[i]?=some (ndeC (ndAt l (i:Int))):=by simp [ndAt,g]
 have hkk:kdAt l (i:Int)=1:=by rw [<- hk1]; simp [kdAt,ndAt,g]
 have hty:typZ l (i:Int)=Typ.of 1 ⟨#[]⟩:=by simp only [typZ,hk1]
 rw [hkk] at hkd;generalize ndAt l (i:Int)=x at *
 have hnm:=q1Q 1;simp only [evA,dftC,ndeC] at hkd gm;obtain ⟨z,hz⟩:∃ z:Int,z=i:=⟨_,rfl⟩;have hz0:0<=z:=by omega
 rw [<- hz] at e6 hkd;rw [show i=z.toNat from by omega] at gm;simp [q16,-y0,-y5,-y4,y3,e1,m1,e4,e6,hz0,gm,hkd,hnm];refine hk (s.next + 1) _ ⟨⟨?_,?_,?_,?_,?_,?_,?_,?_,⟨?_,?_,?_,?_,?_⟩,?_,?_⟩,?_,?_,?_⟩
 ·simp [e1]
 ·simp [m1]
 ·simp [e2]
 ·simpa using m2
 ·simp [e4]
 ·simp [e5]
 ·simp [e6,hz]
 ·exact m5.keep (by simp) (fun N _=>by simp) (fun N _=>by simp) (by dsimp only; omega)
 ·repeat (first | exact cm | refine q24.set ?_ (by omega))
 ·exact cg
 ·exact co
 ·dsimp only; omega
 ·exact ((((cl.mono (by dsimp only; omega)).set (q05 (by simp [AV.free,AV.free0]))).set (q05 (by simp [AV.free,AV.free0]))).set (q05 (by simp [AV.free,AV.free0]))).set (q05 (by simp [AV.free,AV.free0]))
 ·dsimp only
  repeat (first | exact lowE.mono (by omega) | refine LowE.put ?_ (fun _ _ _=>rfl) | refine LowE.put ?_ (q1F (by omega)))
 ·dsimp only; omega
 ·simp
 ·dsimp only; omega
 ·refine ⟨.sl true [],_,by simp; rfl,?_,.inl ⟨?_,rfl⟩⟩
  ·rw [hty]; simp [typL,Typ.of]
  ·rw [hty]; rfl
end
section
set_option maxHeartbeats 4000000
theorem hx0 (x:Nde) (hx:x.ok):u8 x.k/\u8 x.a/\u8 x.b/\u8 x.c/\True:=⟨hx.1,hx.2.1,hx.2.2.1,hx.2.2.2.1,trivial⟩
theorem q3w {l:List Nde} (hl:oks l) {i:Nat} (hi:i<l.length):(ndAt l (i:Int)).ok:=by
 have g:l[i]?=some l[i]:=y7 hi;simp only [ndAt,Int.toNat_natCast,g];exact hl.2.2 _ (y8 hi)
theorem kind2_ev {r:RV} {n0:Nat} {s0:MSt} {dn:Bool} {l:List Nde} (hl:oks l) {i:Nat} (hi:i<l.length) {s:MSt} {k:Ex->MSt->Option RV} (h:OfI n0 s0 dn l i s) (hk1:(ndAt l (i:Int)).kind=2) (hk:∀ n8 s',q8Q n0 s0 dn l i n8 s'->q26.run (evC allT q01) (evK allT q01) s' k=some r):q16.run (evC allT q01) (evK allT q01) s k=some r:=by
 obtain ⟨e1,m1,e2,m2,e4,e5,e6,m5,⟨cm,cg,co,cn,cl⟩,lowE,lt⟩:=h;have hkd:=q4y (dn:=dn) hl (z:=(i:Int)) (by omega) (by omega);have g:l[i]?=some l[i]:=y7 hi;have gm:(l.map ndeC)[i]?=some (ndeC (ndAt l (i:Int))):=by simp [ndAt,g]
 have hkk:kdAt l (i:Int)=2:=by rw [<- hk1]; simp [kdAt,ndAt,g]
 have hty:typZ l (i:Int)={ Typ.of 2 ⟨#[]⟩ with low:=(ndAt l (i:Int)).low,high:=(ndAt l (i:Int)).high }:=by simp only [typZ,hk1]
 have hx:=q3w hl hi;rw [hkk] at hkd;generalize ndAt l (i:Int)=x at *
 have hnm:=q1Q 2;obtain ⟨xk,xa,xb,xc,_⟩:=hx0 x hx;have hlow:=low_ev x hx;have hhigh:=high_ev x hx;simp only [evA,ndeC] at hlow hhigh;simp only [evA,dftC,ndeC] at hkd gm;obtain ⟨z,hz⟩:∃ z:Int,z=i:=⟨_,rfl⟩;have hz0:0<=z:=by omega
 rw [<- hz] at e6 hkd;rw [show i=z.toNat from by omega] at gm;simp [q16,-y0,-y5,-y4,y3,e1,m1,e4,e6,hz0,gm,hkd,hnm,hlow,hhigh];refine hk (s.next + 1) _ ⟨⟨?_,?_,?_,?_,?_,?_,?_,?_,⟨?_,?_,?_,?_,?_⟩,?_,?_⟩,?_,?_,?_⟩
 ·simp [e1]
 ·simp [m1]
 ·simp [e2]
 ·simpa using m2
 ·simp [e4]
 ·simp [e5]
 ·simp [e6,hz]
 ·exact m5.keep (by simp) (fun N _=>by simp) (fun N _=>by simp) (by dsimp only; omega)
 ·repeat (first | exact cm | refine q24.set ?_ (by omega))
 ·exact cg
 ·exact co
 ·dsimp only; omega
 ·exact ((((((cl.mono (by dsimp only; omega)).set (q05 (by simp [AV.free,AV.free0]))).set (q05 (by simp [AV.free,AV.free0]))).set (q05 (by simp [AV.free,AV.free0]))).set (q05 (by simp [AV.free,AV.free0]))).set (q05 (by simp [AV.free,AV.free0]))).set (q05 (by simp [AV.free,AV.free0]))
 ·dsimp only
  repeat (first | exact lowE.mono (by omega) | refine LowE.put ?_ (fun _ _ _=>rfl) | refine LowE.put ?_ (q1F (by omega)))
 ·dsimp only; omega
 ·simp
 ·dsimp only; omega
 ·refine ⟨.sl true [],_,by simp; rfl,?_,.inl ⟨?_,rfl⟩⟩
  ·rw [hty]; simp [typL,Typ.of]
  ·rw [hty]; rfl
theorem kind3_ev {r:RV} {n0:Nat} {s0:MSt} {dn:Bool} {l:List Nde} (hl:oks l) {i:Nat} (hi:i<l.length) {s:MSt} {k:Ex->MSt->Option RV} (h:OfI n0 s0 dn l i s) (hk1:(ndAt l (i:Int)).kind=3) (hk:∀ n8 s',q8Q n0 s0 dn l i n8 s'->q26.run (evC allT q01) (evK allT q01) s' k=some r):q16.run (evC allT q01) (evK allT q01) s k=some r:=by
 obtain ⟨e1,m1,e2,m2,e4,e5,e6,m5,⟨cm,cg,co,cn,cl⟩,lowE,lt⟩:=h;have hkd:=q4y (dn:=dn) hl (z:=(i:Int)) (by omega) (by omega);have g:l[i]?=some l[i]:=y7 hi;have gm:(l.map ndeC)[i]?=some (ndeC (ndAt l (i:Int))):=by simp [ndAt,g]
 have hkk:kdAt l (i:Int)=3:=by rw [<- hk1]; simp [kdAt,ndAt,g]
 have hty:typZ l (i:Int)={ Typ.of 3 ⟨#[]⟩ with max:=(ndAt l (i:Int)).a % 4 }:=by simp only [typZ,hk1]
 have hx:=q3w hl hi;rw [hkk] at hkd;generalize ndAt l (i:Int)=x at *
 have hnm:=q1Q 3;obtain ⟨xk,xa,xb,xc,_⟩:=hx0 x hx;have ha4:x.a.tmod 4=x.a % 4:=yw xa.1;have hw4:IntKind.i64.wrap (x.a % 4)=x.a % 4:=IntWalk.i64_in _ (by omega);simp only [evA,dftC,ndeC] at hkd gm;obtain ⟨z,hz⟩:∃ z:Int,z=i:=⟨_,rfl⟩;have hz0:0<=z:=by omega
 rw [<- hz] at e6 hkd;rw [show i=z.toNat from by omega] at gm;simp [q16,-y0,-y5,-y4,y3,e1,m1,e4,e6,hz0,gm,hkd,hnm,ha4,hw4];refine hk (s.next + 1) _ ⟨⟨?_,?_,?_,?_,?_,?_,?_,?_,⟨?_,?_,?_,?_,?_⟩,?_,?_⟩,?_,?_,?_⟩
 ·simp [e1]
 ·simp [m1]
 ·simp [e2]
 ·simpa using m2
 ·simp [e4]
 ·simp [e5]
 ·simp [e6,hz]
 ·exact m5.keep (by simp) (fun N _=>by simp) (fun N _=>by simp) (by dsimp only; omega)
 ·repeat (first | exact cm | refine q24.set ?_ (by omega))
 ·exact cg
 ·exact co
 ·dsimp only; omega
 ·exact (((((cl.mono (by dsimp only; omega)).set (q05 (by simp [AV.free,AV.free0]))).set (q05 (by simp [AV.free,AV.free0]))).set (q05 (by simp [AV.free,AV.free0]))).set (q05 (by simp [AV.free,AV.free0]))).set (q05 (by simp [AV.free,AV.free0]))
 ·dsimp only
  repeat (first | exact lowE.mono (by omega) | refine LowE.put ?_ (fun _ _ _=>rfl) | refine LowE.put ?_ (q1F (by omega)))
 ·dsimp only; omega
 ·simp
 ·dsimp only; omega
 ·refine ⟨.sl true [],_,by simp; rfl,?_,.inl ⟨?_,rfl⟩⟩
  ·rw [hty]; simp [typL,Typ.of]
  ·rw [hty]; rfl
theorem kind7_ev {r:RV} {n0:Nat} {s0:MSt} {dn:Bool} {l:List Nde} (hl:oks l) {i:Nat} (hi:i<l.length) {s:MSt} {k:Ex->MSt->Option RV} (h:OfI n0 s0 dn l i s) (hk1:(ndAt l (i:Int)).kind=7) (hk:∀ n8 s',q8Q n0 s0 dn l i n8 s'->q26.run (evC allT q01) (evK allT q01) s' k=some r):q16.run (evC allT q01) (evK allT q01) s k=some r:=by
 obtain ⟨e1,m1,e2,m2,e4,e5,e6,m5,⟨cm,cg,co,cn,cl⟩,lowE,lt⟩:=h;have hkd:=q4y (dn:=dn) hl (z:=(i:Int)) (by omega) (by omega);have g:l[i]?=some l[i]:=y7 hi;have gm:(l.map ndeC)[i]?=some (ndeC (ndAt l (i:Int))):=by simp [ndAt,g]
 have hkk:kdAt l (i:Int)=7:=by rw [<- hk1]; simp [kdAt,ndAt,g]
 have hty:typZ l (i:Int)={ Typ.of 7 ⟨#[]⟩ with max:=(ndAt l (i:Int)).a % 4,elem:=(ndAt l (i:Int)).c % l.length }:=by simp only [typZ,hk1]
 have hx:=q3w hl hi;rw [hkk] at hkd;generalize ndAt l (i:Int)=x at *
 have hnm:=q1Q 7;obtain ⟨xk,xa,xb,xc,_⟩:=hx0 x hx;have ha4:x.a.tmod 4=x.a % 4:=yw xa.1;have hw4:IntKind.i64.wrap (x.a % 4)=x.a % 4:=IntWalk.i64_in _ (by omega);have hwc:IntKind.i64.wrap x.c=x.c:=IntWalk.i64_in _ (by simp only [u8] at xc; omega);have hmc:x.c.tmod l.length=x.c % l.length:=yw xc.1;have hN0:¬ (l.length:Int)=0:=by omega
 have hl0:¬ l=[]:=by intro e; rw [e] at hi; simp at hi
 simp only [evA,dftC,ndeC] at hkd gm;obtain ⟨z,hz⟩:∃ z:Int,z=i:=⟨_,rfl⟩;have hz0:0<=z:=by omega
 rw [<- hz] at e6 hkd;rw [show i=z.toNat from by omega] at gm;simp [q16,-y0,-y5,-y4,y3,e1,m1,e4,e6,hz0,gm,hkd,hnm,ha4,hw4,hwc,hmc,hN0,hl0];refine hk (s.next + 1) _ ⟨⟨?_,?_,?_,?_,?_,?_,?_,?_,⟨?_,?_,?_,?_,?_⟩,?_,?_⟩,?_,?_,?_⟩
 ·simp [e1]
 ·simp [m1]
 ·simp [e2]
 ·simpa using m2
 ·simp [e4]
 ·simp [e5]
 ·simp [e6,hz]
 ·exact m5.keep (by simp) (fun N _=>by simp) (fun N _=>by simp) (by dsimp only; omega)
 ·repeat (first | exact cm | refine q24.set ?_ (by omega))
 ·exact cg
 ·exact co
 ·dsimp only; omega
 ·exact ((((((cl.mono (by dsimp only; omega)).set (q05 (by simp [AV.free,AV.free0]))).set (q05 (by simp [AV.free,AV.free0]))).set (q05 (by simp [AV.free,AV.free0]))).set (q05 (by simp [AV.free,AV.free0]))).set (q05 (by simp [AV.free,AV.free0]))).set (q05 (by simp [AV.free,AV.free0]))
 ·dsimp only
  repeat (first | exact lowE.mono (by omega) | refine LowE.put ?_ (fun _ _ _=>rfl) | refine LowE.put ?_ (q1F (by omega)))
 ·dsimp only; omega
 ·simp
 ·dsimp only; omega
 ·refine ⟨.sl true [],_,by simp; rfl,?_,.inl ⟨?_,rfl⟩⟩
  ·rw [hty]; simp [typL,Typ.of]
  ·rw [hty]; rfl
theorem kind9_ev {r:RV} {n0:Nat} {s0:MSt} {dn:Bool} {l:List Nde} (hl:oks l) {i:Nat} (hi:i<l.length) {s:MSt} {k:Ex->MSt->Option RV} (h:OfI n0 s0 dn l i s) (hk1:(ndAt l (i:Int)).kind=9) (hk:∀ n8 s',q8Q n0 s0 dn l i n8 s'->q26.run (evC allT q01) (evK allT q01) s' k=some r):q16.run (evC allT q01) (evK allT q01) s k=some r:=by
 obtain ⟨e1,m1,e2,m2,e4,e5,e6,m5,⟨cm,cg,co,cn,cl⟩,lowE,lt⟩:=h;have hkd:=q4y (dn:=dn) hl (z:=(i:Int)) (by omega) (by omega);have g:l[i]?=some l[i]:=y7 hi;have gm:(l.map ndeC)[i]?=some (ndeC (ndAt l (i:Int))):=by simp [ndAt,g]
 have hkk:kdAt l (i:Int)=9:=by rw [<- hk1]; simp [kdAt,ndAt,g]
 have hty:typZ l (i:Int)={ Typ.of 9 ⟨#[]⟩ with elem:=(ndAt l (i:Int)).c % l.length }:=by simp only [typZ,hk1]
 have hx:=q3w hl hi;rw [hkk] at hkd;generalize ndAt l (i:Int)=x at *
 have hnm:=q1Q 9;obtain ⟨xk,xa,xb,xc,_⟩:=hx0 x hx;have hwc:IntKind.i64.wrap x.c=x.c:=IntWalk.i64_in _ (by simp only [u8] at xc; omega);have hmc:x.c.tmod l.length=x.c % l.length:=yw xc.1;have hN0:¬ (l.length:Int)=0:=by omega
 have hl0:¬ l=[]:=by intro e; rw [e] at hi; simp at hi
 simp only [evA,dftC,ndeC] at hkd gm;obtain ⟨z,hz⟩:∃ z:Int,z=i:=⟨_,rfl⟩;have hz0:0<=z:=by omega
 rw [<- hz] at e6 hkd;rw [show i=z.toNat from by omega] at gm;simp [q16,-y0,-y5,-y4,y3,e1,m1,e4,e6,hz0,gm,hkd,hnm,hwc,hmc,hN0,hl0];refine hk (s.next + 1) _ ⟨⟨?_,?_,?_,?_,?_,?_,?_,?_,⟨?_,?_,?_,?_,?_⟩,?_,?_⟩,?_,?_,?_⟩
 ·simp [e1]
 ·simp [m1]
 ·simp [e2]
 ·simpa using m2
 ·simp [e4]
 ·simp [e5]
 ·simp [e6,hz]
 ·exact m5.keep (by simp) (fun N _=>by simp) (fun N _=>by simp) (by dsimp only; omega)
 ·repeat (first | exact cm | refine q24.set ?_ (by omega))
 ·exact cg
 ·exact co
 ·dsimp only; omega
 ·exact (((((cl.mono (by dsimp only; omega)).set (q05 (by simp [AV.free,AV.free0]))).set (q05 (by simp [AV.free,AV.free0]))).set (q05 (by simp [AV.free,AV.free0]))).set (q05 (by simp [AV.free,AV.free0]))).set (q05 (by simp [AV.free,AV.free0]))
 ·dsimp only
  repeat (first | exact lowE.mono (by omega) | refine LowE.put ?_ (fun _ _ _=>rfl) | refine LowE.put ?_ (q1F (by omega)))
 ·dsimp only; omega
 ·simp
 ·dsimp only; omega
 ·refine ⟨.sl true [],_,by simp; rfl,?_,.inl ⟨?_,rfl⟩⟩
  ·rw [hty]; simp [typL,Typ.of]
  ·rw [hty]; rfl
theorem kind8n_ev {r:RV} {n0:Nat} {s0:MSt} {dn:Bool} {l:List Nde} (hl:oks l) {i:Nat} (hi:i<l.length) {s:MSt} {k:Ex->MSt->Option RV} (h:OfI n0 s0 dn l i s) (hk1:(ndAt l (i:Int)).kind=8) (hc:keyZ l (ndAt l (i:Int)).b<0) (hk:∀ n8 s',q8Q n0 s0 dn l i n8 s'->q26.run (evC allT q01) (evK allT q01) s' k=some r):q16.run (evC allT q01) (evK allT q01) s k=some r:=by
 obtain ⟨e1,m1,e2,m2,e4,e5,e6,m5,⟨cm,cg,co,cn,cl⟩,lowE,lt⟩:=h;have hkd:=q4y (dn:=dn) hl (z:=(i:Int)) (by omega) (by omega);have g:l[i]?=some l[i]:=y7 hi;have gm:(l.map ndeC)[i]?=some (ndeC (ndAt l (i:Int))):=by simp [ndAt,g]
 have hkk:kdAt l (i:Int)=8:=by rw [<- hk1]; simp [kdAt,ndAt,g]
 have hty:typZ l (i:Int)={ Typ.of 7 ⟨#[]⟩ with max:=(ndAt l (i:Int)).a % 4,elem:=(ndAt l (i:Int)).c % l.length }:=by simp only [typZ,hk1]; rw [if_pos hc]
 have hx:=q3w hl hi;rw [hkk] at hkd;generalize ndAt l (i:Int)=x at *
 have hnm:=q1Q 8;obtain ⟨xk,xa,xb,xc,_⟩:=hx0 x hx;have ha4:x.a.tmod 4=x.a % 4:=yw xa.1;have hw4:IntKind.i64.wrap (x.a % 4)=x.a % 4:=IntWalk.i64_in _ (by omega);have hwc:IntKind.i64.wrap x.c=x.c:=IntWalk.i64_in _ (by simp only [u8] at xc; omega);have hmc:x.c.tmod l.length=x.c % l.length:=yw xc.1;have hN0:¬ (l.length:Int)=0:=by omega
 have hl0:¬ l=[]:=by intro e; rw [e] at hi; simp at hi
 have hkey:=key_ev dn l hl x.b xb;simp only [evA,dftC] at hkey;simp only [evA,dftC,ndeC] at hkd gm;obtain ⟨z,hz⟩:∃ z:Int,z=i:=⟨_,rfl⟩;have hz0:0<=z:=by omega
 rw [<- hz] at e6 hkd;rw [show i=z.toNat from by omega] at gm;simp [q16,-y0,-y5,-y4,y3,e1,m1,e4,e6,hz0,gm,hkd,hnm,ha4,hw4,hwc,hmc,hN0,hl0,hkey,hc];refine hk (s.next + 1) _ ⟨⟨?_,?_,?_,?_,?_,?_,?_,?_,⟨?_,?_,?_,?_,?_⟩,?_,?_⟩,?_,?_,?_⟩
 ·simp [e1]
 ·simp [m1]
 ·simp [e2]
 ·simpa using m2
 ·simp [e4]
 ·simp [e5]
 ·simp [e6,hz]
 ·exact m5.keep (by simp) (fun N _=>by simp) (fun N _=>by simp) (by dsimp only; omega)
 ·repeat (first | exact cm | refine q24.set ?_ (by omega))
 ·exact cg
 ·exact co
 ·dsimp only; omega
 ·exact ((((((((cl.mono (by dsimp only; omega)).set (q05 (by simp [AV.free,AV.free0]))).set (q05 (by simp [AV.free,AV.free0]))).set (q05 (by simp [AV.free,AV.free0]))).set (q05 (by simp [AV.free,AV.free0]))).set (q05 (by simp [AV.free,AV.free0]))).set (q05 (by simp [AV.free,AV.free0]))).set (q05 (by simp [AV.free,AV.free0]))).set (q05 (by simp [AV.free,AV.free0]))
 ·dsimp only
  repeat (first | exact lowE.mono (by omega) | refine LowE.put ?_ (fun _ _ _=>rfl) | refine LowE.put ?_ (q1F (by omega)))
 ·dsimp only; omega
 ·simp
 ·dsimp only; omega
 ·refine ⟨.sl true [],_,by simp; rfl,?_,.inl ⟨?_,rfl⟩⟩
  ·rw [hty]; simp [typL,Typ.of]
  ·rw [hty]; rfl
theorem kind8p_ev {r:RV} {n0:Nat} {s0:MSt} {dn:Bool} {l:List Nde} (hl:oks l) {i:Nat} (hi:i<l.length) {s:MSt} {k:Ex->MSt->Option RV} (h:OfI n0 s0 dn l i s) (hk1:(ndAt l (i:Int)).kind=8) (hc:¬ keyZ l (ndAt l (i:Int)).b<0) (hk:∀ n8 s',q8Q n0 s0 dn l i n8 s'->q26.run (evC allT q01) (evK allT q01) s' k=some r):q16.run (evC allT q01) (evK allT q01) s k=some r:=by
 obtain ⟨e1,m1,e2,m2,e4,e5,e6,m5,⟨cm,cg,co,cn,cl⟩,lowE,lt⟩:=h;have hkd:=q4y (dn:=dn) hl (z:=(i:Int)) (by omega) (by omega);have g:l[i]?=some l[i]:=y7 hi;have gm:(l.map ndeC)[i]?=some (ndeC (ndAt l (i:Int))):=by simp [ndAt,g]
 have hkk:kdAt l (i:Int)=8:=by rw [<- hk1]; simp [kdAt,ndAt,g]
 have hty:typZ l (i:Int)={ Typ.of 8 ⟨#[]⟩ with max:=(ndAt l (i:Int)).a % 4,key:=keyZ l (ndAt l (i:Int)).b,elem:=(ndAt l (i:Int)).c % l.length }:=by simp only [typZ,hk1]; rw [if_neg hc]
 have hx:=q3w hl hi;rw [hkk] at hkd;generalize ndAt l (i:Int)=x at *
 have hnm:=q1Q 8;obtain ⟨xk,xa,xb,xc,_⟩:=hx0 x hx;have ha4:x.a.tmod 4=x.a % 4:=yw xa.1;have hw4:IntKind.i64.wrap (x.a % 4)=x.a % 4:=IntWalk.i64_in _ (by omega);have hwc:IntKind.i64.wrap x.c=x.c:=IntWalk.i64_in _ (by simp only [u8] at xc; omega);have hmc:x.c.tmod l.length=x.c % l.length:=yw xc.1;have hN0:¬ (l.length:Int)=0:=by omega
 have hl0:¬ l=[]:=by intro e; rw [e] at hi; simp at hi
 have hkey:=key_ev dn l hl x.b xb;simp only [evA,dftC] at hkey;simp only [evA,dftC,ndeC] at hkd gm;obtain ⟨z,hz⟩:∃ z:Int,z=i:=⟨_,rfl⟩;have hz0:0<=z:=by omega
 rw [<- hz] at e6 hkd;rw [show i=z.toNat from by omega] at gm;simp [q16,-y0,-y5,-y4,y3,e1,m1,e4,e6,hz0,gm,hkd,hnm,ha4,hw4,hwc,hmc,hN0,hl0,hkey,hc];refine hk (s.next + 1) _ ⟨⟨?_,?_,?_,?_,?_,?_,?_,?_,⟨?_,?_,?_,?_,?_⟩,?_,?_⟩,?_,?_,?_⟩
 ·simp [e1]
 ·simp [m1]
 ·simp [e2]
 ·simpa using m2
 ·simp [e4]
 ·simp [e5]
 ·simp [e6,hz]
 ·exact m5.keep (by simp) (fun N _=>by simp) (fun N _=>by simp) (by dsimp only; omega)
 ·repeat (first | exact cm | refine q24.set ?_ (by omega))
 ·exact cg
 ·exact co
 ·dsimp only; omega
 ·exact (((((((cl.mono (by dsimp only; omega)).set (q05 (by simp [AV.free,AV.free0]))).set (q05 (by simp [AV.free,AV.free0]))).set (q05 (by simp [AV.free,AV.free0]))).set (q05 (by simp [AV.free,AV.free0]))).set (q05 (by simp [AV.free,AV.free0]))).set (q05 (by simp [AV.free,AV.free0]))).set (q05 (by simp [AV.free,AV.free0]))
 ·dsimp only
  repeat (first | exact lowE.mono (by omega) | refine LowE.put ?_ (fun _ _ _=>rfl) | refine LowE.put ?_ (q1F (by omega)))
 ·dsimp only; omega
 ·simp
 ·dsimp only; omega
 ·refine ⟨.sl true [],_,by simp; rfl,?_,.inl ⟨?_,rfl⟩⟩
  ·rw [hty]; simp [typL,Typ.of]
  ·rw [hty]; rfl
end
section
set_option maxHeartbeats 4000000
theorem rowOf_pure (l:List (List AV)):∀ x∈q0g l,qa0 x:=fun x hx=>by
 obtain ⟨v,_,rfl⟩:=yz.1 hx;exact qb6 v
theorem q6Q.stay {ms:List Mem} {c:AV} {s s':MSt} (h:q6Q ms c s) (hm:∀ n r,s.mem 88 n=some r->(∀ x∈r,qa0 x)->s'.mem 88 n=some r) (hn:s.next<=s'.next):q6Q ms c s':=by
 rcases h with h | ⟨N,h1,h2,h3,h4⟩
 ·exact .inl h
 ·exact .inr ⟨N,h1,yX h2 hn,h3,hm N _ h4 (rowOf_pure _)⟩
theorem q6T.stay {S:List Typ} {L:List (List AV)} {s s':MSt} (h:q6T S L s) (hm:∀ n r,s.mem 88 n=some r->(∀ x∈r,qa0 x)->s'.mem 88 n=some r) (hn:s.next<=s'.next):q6T S L s' :=
 ⟨h.1,fun i t c ht hc=>by obtain ⟨m,h1,h2⟩:=h.2 i t c ht hc; exact ⟨m,h1,h2.stay hm hn⟩⟩
theorem M5I.stay {n0:Nat} {l:List Nde} {i:Nat} {s s':MSt} (h:M5I n0 l i s) (hm:∀ t n r,(t=5\/t=88\/t=168)->s.mem t n=some r->(∀ x∈r,qa0 x)->s'.mem t n=some r) (hn:s.next<=s'.next):M5I n0 l i s':=by
 rcases h with ⟨h1,a,h2,h3⟩ | ⟨N,L,h1,h2,h0,h3,h4,h6,h7⟩
 ·exact .inl ⟨h1,a,hm 5 _ _ (.inl rfl) h2 (by simpa using h3),h3⟩
 ·exact .inr ⟨N,L,h1,hm 5 _ _ (.inl rfl) h2 (by simpa using qb6 _),h0,yX h3 hn,hm 168 _ _ (.inr (.inr rfl)) h4 (rowOf_pure _),h6,h7.stay (fun n r=>hm 88 n r (.inr (.inl rfl))) hn⟩
theorem kind4_ev {r:RV} {n0:Nat} {s0:MSt} {dn:Bool} {l:List Nde} (hl:oks l) (hG:PureE s0.gh) (hP:PureM n0 s0.mem) {i:Nat} (hi:i<l.length) {s:MSt} {k:Ex->MSt->Option RV} (h:OfI n0 s0 dn l i s) (hk1:(ndAt l (i:Int)).kind=4) (hk:∀ n8 s',q8Q n0 s0 dn l i n8 s'->q26.run (evC allT q01) (evK allT q01) s' k=some r):q16.run (evC allT q01) (evK allT q01) s k=some r:=by
 obtain ⟨e1,m1,e2,m2,e4,e5,e6,m5,⟨cm,cg,co,cn,cl⟩,lowE,lt⟩:=h;have hkd:=q4y (dn:=dn) hl (z:=(i:Int)) (by omega) (by omega);have g:l[i]?=some l[i]:=y7 hi;have gm:(l.map ndeC)[i]?=some (ndeC (ndAt l (i:Int))):=by simp [ndAt,g]
 have hkk:kdAt l (i:Int)=4:=by rw [<- hk1]; simp [kdAt,ndAt,g]
 have hty:typZ l (i:Int)={ Typ.of 4 (q7t i) with opn:=decide ((ndAt l (i:Int)).b % 2=1),sn:=false,syms:=q6s (ndAt l (i:Int)).a }:=by simp only [typZ,hk1]
 have hx:=q3w hl hi;have hN5:=hl.2.1;rw [hkk] at hkd;generalize ndAt l (i:Int)=x at *
 have hnm:=q1Q 4;have hids:=ids7_ev x hx;obtain ⟨xk,xa,xb,xc,_⟩:=hx0 x hx;have hb2:x.b.tmod 2=x.b % 2:=yw xb.1;simp only [evA,dftC,ndeC] at hkd gm hids;obtain ⟨z,hz⟩:∃ z:Int,z=i:=⟨_,rfl⟩;have hz0:0<=z:=by omega
 have hw65:IntKind.i64.wrap (65 + z)=65 + z:=IntWalk.i64_in _ (by omega);have hw32:IntKind.i32.wrap (65 + z)=65 + z:=i32_in _ (by omega);rw [<- hz] at e6 hkd;rw [show i=z.toNat from by omega] at gm;simp [q16,-y0,-y5,-y4,y3,e1,m1,e4,e6,hz0,gm,hkd,hnm,hids,hb2,hw65,hw32];refine esyms_ev (a:=x.a) (n8:=s.next + 1) (nm:=Utf8.encode (65 + z)) (op:=decide (x.b % 2=1)) _ _ ?_ ?_ ?_ ?_ ?_ ?_ ?_ ?_ (fun s' h1 h2 h3 h4 h5 h6 h7 h8=>?_)
 ·simp
 ·simp
 ·simp
 ·dsimp only; omega
 ·simp [q5L]
 ·show PureE s.gh;rw [cg]; exact hG
 ·exact ((((((cl.mono (by dsimp only; omega)).set (q05 (by simp [AV.free,AV.free0]))).set (q05 (by simp [AV.free,AV.free0]))).set (q05 (by simp [AV.free,AV.free0]))).set (q05 (by simp [AV.free,AV.free0]))).set (q05 (by simp [AV.free,AV.free0]))).set (q05 (by simp [AV.free,AV.free0]))
 ·dsimp only
  repeat (first | exact lowE.mono (by omega) | refine LowE.put ?_ (fun _ _ _=>rfl) | refine LowE.put ?_ (q1F (by omega)))
 ·obtain ⟨an,h8⟩:=h8;simp [-y0,-y5,-y4,y3];have hst:∀ t n r,¬ t=8->¬ t=7->s.mem t n=some r->(∀ x∈r,qa0 x)->s'.mem t n=some r:=fun t n r t8 t7 hr hp=>by
   refine (h2 t n (by omega) fun r' hr'=>?_).trans ?_
   ·simp [t7,t8,hr] at hr';subst hr';exact hp
   ·simp [t7,t8,hr]
  refine hk (s.next + 1) s' ⟨⟨(h1 1 (by omega)).trans (by simp [e1]),hst 1 n0 _ (by omega) (by omega) m1 (by simpa using qb6 _),(h1 2 (by omega)).trans (by simp [e2]),?_,(h1 4 (by omega)).trans (by simp [e4]),(h1 5 (by omega)).trans (by simp [e5]),(h1 6 (by omega)).trans (by simp [e6,hz]),?_,⟨?_,?_,?_,?_,h6⟩,h7,?_⟩,(h1 8 (by omega)).trans (by simp),?_,?_⟩
  ·obtain ⟨a,m2,p2⟩:=m2;exact ⟨a,hst 2 n0 _ (by omega) (by omega) m2 (by simpa using p2),p2⟩
  ·exact m5.stay (fun t n r ht=>hst t n r (by omega) (by omega)) (by dsimp only at h5; omega)
  ·intro t n hn;refine (h2 t n (by omega) fun r' hr'=>?_).trans ?_
   ·simp [show ¬ n=s.next from by omega,show ¬ n=s.next + 1 from by omega,cm t n hn] at hr';exact hP t n r' hn hr'
   ·simp [show ¬ n=s.next from by omega,show ¬ n=s.next + 1 from by omega,cm t n hn]
  ·rw [h3]; exact cg
  ·rw [h4]; exact co
  ·dsimp only at h5; omega
  ·dsimp only at h5; omega
  ·dsimp only at h5; omega
  ·refine ⟨.sl true [],_,h8,?_,.inl ⟨?_,rfl⟩⟩
   ·rw [hty,hz]; simp [typL,Typ.of,q5L,q7t]
   ·rw [hty]; rfl
end
section
set_option maxHeartbeats 4000000
theorem LowE.wait {m nt:Nat} {e g:Nat->Slot} (h:LowE m e) (h':LowE m g):LowE m (waitE nt e g):=fun t=>by
 rw [q2P];split
 ·exact h t
 ·exact h' _
theorem LowE.back {m nt:Nat} {g:Nat->Slot} (h:LowE m g):LowE m (backE nt g):=fun t=>by
 rw [q7Y];split
 ·exact h t
 ·exact fun _ _ _=>rfl
theorem rest_wait (nt:Nat) (e g:Nat->Slot):restE nt (waitE nt e g)=g:=funext fun t=>by
 rw [restE_at,q2P,if_neg (by omega)];congr 1;omega
theorem q24.trans {m m':Nat} {A B C:Nat->Nat->Option (List Slot)} (h:q24 m A B) (h':q24 m' B C) (hm:m<=m'):q24 m A C:=fun t n hn=>(h' t n (by omega)).trans (h t n hn)
theorem q6Q.lowV {ms:List Mem} {c:AV} {s:MSt} (h:q6Q ms c s):lowV s.next c:=lowV_of h.low (by
 rcases h with ⟨_,rfl⟩ | ⟨N,_,_,rfl,_⟩ <;> rfl)
theorem kind5_ev {r:RV} {n0:Nat} {s0:MSt} {dn:Bool} {l:List Nde} (hl:oks l) (hG:LowE n0 s0.gh) {i:Nat} (hi:i<l.length) {s:MSt} {k:Ex->MSt->Option RV} (h:OfI n0 s0 dn l i s) (hk1:(ndAt l (i:Int)).kind=5) (hk:∀ n8 s',q8Q n0 s0 dn l i n8 s'->q26.run (evC allT q01) (evK allT q01) s' k=some r):q16.run (evC allT q01) (evK allT q01) s k=some r:=by
 obtain ⟨e1,m1,e2,m2,e4,e5,e6,m5,⟨cm,cg,co,cn,cl⟩,lowE,lt⟩:=h;have hkd:=q4y (dn:=dn) hl (z:=(i:Int)) (by omega) (by omega);have g:l[i]?=some l[i]:=y7 hi;have gm:(l.map ndeC)[i]?=some (ndeC (ndAt l (i:Int))):=by simp [ndAt,g]
 have gx:l[((i:Int)).toNat]?=some (ndAt l (i:Int)):=by simp [ndAt,g]
 have hkk:kdAt l (i:Int)=5:=by rw [<- hk1]; simp [kdAt,ndAt,g]
 have hty:typZ l (i:Int)={ Typ.of 5 (q7t (i:Int)) with mn:=(q3i l (i:Int) true (ndAt l (i:Int)).parts).isEmpty,mems:=(q3i l (i:Int) true (ndAt l (i:Int)).parts) }:=by simp only [typZ,hk1]
 have hx:=q3w hl hi;have hN5:=hl.2.1;rw [hkk] at hkd;generalize ndAt l (i:Int)=x at *
 have hnm:=q1Q 5;obtain ⟨xk,xa,xb,xc,_⟩:=hx0 x hx;have hb2:x.b.tmod 2=x.b % 2:=yw xb.1;simp only [evA,dftC,ndeC] at hkd gm;obtain ⟨z,hz⟩:∃ z:Int,z=i:=⟨_,rfl⟩;have hz0:0<=z:=by omega
 have hz1:z<l.length:=by omega
 have hw65:IntKind.i64.wrap (65 + z)=65 + z:=IntWalk.i64_in _ (by omega);have hw32:IntKind.i32.wrap (65 + z)=65 + z:=i32_in _ (by omega);rw [<- hz] at e6 hkd gx hty;rw [show i=z.toNat from by omega] at gm;simp [q16,-y0,-y5,-y4,y3,e1,m1,e4,e6,hz0,gm,hkd,hnm,hw65,hw32,hb2];refine parts_ev hl hz0 hz1 gx _ ?_ ?_ _ (fun y s' hc hli=>?_)
 ·exact (((((cl.mono (by dsimp only; omega)).set (q05 (by simp [AV.free,AV.free0]))).set (q05 (by simp [AV.free,AV.free0]))).set (q05 (by simp [AV.free,AV.free0]))).set (q05 (by simp [AV.free,AV.free0]))).set (q05 (by simp [AV.free,AV.free0]))
 ·dsimp only;refine LowE.wait ?_ (by rw [cg]; exact hG.mono (by omega))
  repeat (first | exact lowE.mono (by omega) | refine LowE.put ?_ (fun _ _ _=>rfl) | refine LowE.put ?_ (q1F (by omega)))
 ·obtain ⟨cm2,cg2,co2,cn2,cl2⟩:=hc;dsimp only at cg2 co2 cn2 cm2;have hms:=hli.mems;have hyl:=hms.lowV;have g1:(s'.gh 1).v=.ptr 1 n0 0:=by rw [cg2]; simp [q2P,e1]
  have g2:(s'.gh 2).v=.ptr 2 n0 0:=by rw [cg2]; simp [q2P,e2]
  have g4:(s'.gh 4).v=.int .i64 l.length:=by rw [cg2]; simp [q2P,e4]
  have g5:(s'.gh 5).v=.ptr 5 (n0 + 3) 0:=by rw [cg2]; simp [q2P,e5]
  have g6:(s'.gh 6).v=.int .i64 z:=by rw [cg2]; simp [q2P,e6]
  have g8:(s'.gh 8).v=.ptr 8 (s.next + 1) 0:=by rw [cg2]; simp [q2P]
  have m8:s'.mem 8 (s.next + 1)=some [⟨.int .i64 5,.no⟩,⟨.str (Utf8.encode (65 + z)),.no⟩,⟨.int .i64 0,.no⟩,⟨.int .i64 0,.no⟩,⟨.int .i64 0,.no⟩,⟨.sl true [],.no⟩,⟨.sl true [],.no⟩,⟨.int .i64 0,.no⟩,⟨.int .i64 0,.no⟩,⟨.bool false,.no⟩]:=by rw [cm2 8 (s.next + 1) (by omega)]; simp
  have hgl:LowE s'.next s'.gh:=by
   rw [cg2];refine LowE.wait ?_ (by rw [cg]; exact hG.mono (by omega))
   repeat (first | exact lowE.mono (by omega) | refine LowE.put ?_ (fun _ _ _=>rfl) | refine LowE.put ?_ (q1F (by omega)))
  have fin:∀ (E:Nat->Slot) (M:Nat->Nat->Option (List Slot)) (row:List Slot) (nx:Nat),(∀ t,t<9->(E t).v=(s'.gh t).v)->LowE s'.next E->s'.next<nx->(∀ t n,M t n=if t=8/\n=s.next + 1 then some row else s'.mem t n)->(∀ q∈row,lowV s'.next q.v)->(∃ m,row.map (·.v)=typL (typZ l z) m/\q6Q (typZ l z).mems m s')->q8Q n0 s0 dn l i (s.next + 1) ⟨E,M,nx,s'.obj,restE 171 s'.gh⟩:=fun E M row nx hE hEl hnx hM hrl hr=>by
   refine ⟨⟨?_,?_,?_,?_,?_,?_,?_,?_,⟨?_,?_,?_,?_,?_⟩,?_,?_⟩,?_,?_,?_⟩
   ·exact (hE 1 (by omega)).trans g1
   ·simp [hM,cm2 1 n0 (by omega),m1]
   ·exact (hE 2 (by omega)).trans g2
   ·simpa [hM,cm2 2 n0 (by omega)] using m2
   ·exact (hE 4 (by omega)).trans g4
   ·exact (hE 5 (by omega)).trans g5
   ·exact (hE 6 (by omega)).trans (by rw [g6,hz])
   ·refine m5.keep (by simp [hM,cm2 5 (n0 + 3) (by omega)]) (fun N hN=>by simp [hM,cm2 168 N (by omega)]) (fun N hN=>by simp [hM,cm2 88 N (by omega)]) (by dsimp only; omega)
   ·intro t n hn;show M t n=_;rw [hM,if_neg (by omega),cm2 t n (by omega)];simp [show ¬ n=s.next from by omega,show ¬ n=s.next + 1 from by omega,cm t n hn]
   ·show restE 171 s'.gh=s0.gh;rw [cg2,rest_wait];exact cg
   ·exact co2.trans co
   ·dsimp only; omega
   ·intro t n r' hr' q hq;have hr':M t n=some r':=hr';rw [hM] at hr';split at hr'
    ·injection hr' with hr'; subst hr';exact q4W (by dsimp only; omega) (hrl q hq)
    ·exact q4W (by dsimp only; omega) (cl2 t n r' hr' q hq)
   ·exact hEl.mono (by dsimp only; omega)
   ·dsimp only; omega
   ·exact (hE 8 (by omega)).trans g8
   ·dsimp only; omega
   ·obtain ⟨m,hr1,hr2⟩:=hr;rw [<- hz];refine ⟨m,row,by show M 8 _=_; rw [hM,if_pos ⟨rfl,rfl⟩],hr1,hr2.keep (fun N hN=>?_) (by dsimp only; omega)⟩;show M 88 N=_;rw [hM,if_neg (by omega)]
  rcases hms with ⟨_,e⟩ | ⟨N,_,_,e,_⟩
  ·simp [-y0,-y5,-y4,y3,g8,m8,e];refine hk _ _ (fin _ _ _ _ (fun t ht=>?_) ?_ (by omega) (fun t n=>by simp [q0z]; rfl) (fun q hq=>?_) ?_)
   ·have q:∀ c,9<=c->¬ t=c:=fun c hc=>by omega
    simp [q,q7Y,show t<171 from by omega]
   ·repeat (first | exact hgl.back | refine LowE.put ?_ (fun _ _ _=>rfl) | refine LowE.put ?_ (q1F (by omega)) | refine LowE.put ?_ hyl | refine LowE.put ?_ (by rw [<- e]; exact hyl))
   ·simp only [yj,yJ,or_false] at hq;rcases hq with rfl | rfl | rfl | rfl | rfl | rfl | rfl | rfl | rfl | rfl <;> first | exact q7M rfl | (rw [<- e]; exact hyl)
   ·exact ⟨y.v,by rw [hty,e]; simp [typL,Typ.of,q7t],by rw [hty]; exact hli.mems⟩
  ·simp [-y0,-y5,-y4,y3,g8,m8,e];refine hk _ _ (fin _ _ _ _ (fun t ht=>?_) ?_ (by omega) (fun t n=>by simp [q0z]; rfl) (fun q hq=>?_) ?_)
   ·have q:∀ c,9<=c->¬ t=c:=fun c hc=>by omega
    simp [q,q7Y,show t<171 from by omega]
   ·repeat (first | exact hgl.back | refine LowE.put ?_ (fun _ _ _=>rfl) | refine LowE.put ?_ (q1F (by omega)) | refine LowE.put ?_ hyl | refine LowE.put ?_ (by rw [<- e]; exact hyl))
   ·simp only [yj,yJ,or_false] at hq;rcases hq with rfl | rfl | rfl | rfl | rfl | rfl | rfl | rfl | rfl | rfl <;> first | exact q7M rfl | (rw [<- e]; exact hyl)
   ·exact ⟨y.v,by rw [hty,e]; simp [typL,Typ.of,q7t],by rw [hty]; exact hli.mems⟩
theorem kind6_ev {r:RV} {n0:Nat} {s0:MSt} {dn:Bool} {l:List Nde} (hl:oks l) (hG:LowE n0 s0.gh) {i:Nat} (hi:i<l.length) {s:MSt} {k:Ex->MSt->Option RV} (h:OfI n0 s0 dn l i s) (hk1:(ndAt l (i:Int)).kind=6) (hk:∀ n8 s',q8Q n0 s0 dn l i n8 s'->q26.run (evC allT q01) (evK allT q01) s' k=some r):q16.run (evC allT q01) (evK allT q01) s k=some r:=by
 obtain ⟨e1,m1,e2,m2,e4,e5,e6,m5,⟨cm,cg,co,cn,cl⟩,lowE,lt⟩:=h;have hkd:=q4y (dn:=dn) hl (z:=(i:Int)) (by omega) (by omega);have g:l[i]?=some l[i]:=y7 hi;have gm:(l.map ndeC)[i]?=some (ndeC (ndAt l (i:Int))):=by simp [ndAt,g]
 have gx:l[((i:Int)).toNat]?=some (ndAt l (i:Int)):=by simp [ndAt,g]
 have hkk:kdAt l (i:Int)=6:=by rw [<- hk1]; simp [kdAt,ndAt,g]
 have hty:typZ l (i:Int)=if (q3i l (i:Int) false (ndAt l (i:Int)).parts).isEmpty=true then .of 5 (q7t (i:Int)) else { Typ.of 6 (q7t (i:Int)) with opn:=decide ((ndAt l (i:Int)).b % 2=1),mn:=false,mems:=(q3i l (i:Int) false (ndAt l (i:Int)).parts) }:=by simp only [typZ,hk1]
 have hx:=q3w hl hi;have hN5:=hl.2.1;rw [hkk] at hkd;generalize ndAt l (i:Int)=x at *
 have hnm:=q1Q 6;obtain ⟨xk,xa,xb,xc,_⟩:=hx0 x hx;have hb2:x.b.tmod 2=x.b % 2:=yw xb.1;simp only [evA,dftC,ndeC] at hkd gm;obtain ⟨z,hz⟩:∃ z:Int,z=i:=⟨_,rfl⟩;have hz0:0<=z:=by omega
 have hz1:z<l.length:=by omega
 have hw65:IntKind.i64.wrap (65 + z)=65 + z:=IntWalk.i64_in _ (by omega);have hw32:IntKind.i32.wrap (65 + z)=65 + z:=i32_in _ (by omega);rw [<- hz] at e6 hkd gx hty;rw [show i=z.toNat from by omega] at gm;simp [q16,-y0,-y5,-y4,y3,e1,m1,e4,e6,hz0,gm,hkd,hnm,hw65,hw32,hb2];refine parts_ev hl hz0 hz1 gx _ ?_ ?_ _ (fun y s' hc hli=>?_)
 ·exact ((((((cl.mono (by dsimp only; omega)).set (q05 (by simp [AV.free,AV.free0]))).set (q05 (by simp [AV.free,AV.free0]))).set (q05 (by simp [AV.free,AV.free0]))).set (q05 (by simp [AV.free,AV.free0]))).set (q05 (by simp [AV.free,AV.free0]))).set (q05 (by simp [AV.free,AV.free0]))
 ·dsimp only;refine LowE.wait ?_ (by rw [cg]; exact hG.mono (by omega))
  repeat (first | exact lowE.mono (by omega) | refine LowE.put ?_ (fun _ _ _=>rfl) | refine LowE.put ?_ (q1F (by omega)))
 ·obtain ⟨cm2,cg2,co2,cn2,cl2⟩:=hc;dsimp only at cg2 co2 cn2 cm2;have hms:=hli.mems;have hyl:=hms.lowV;have g1:(s'.gh 1).v=.ptr 1 n0 0:=by rw [cg2]; simp [q2P,e1]
  have g2:(s'.gh 2).v=.ptr 2 n0 0:=by rw [cg2]; simp [q2P,e2]
  have g4:(s'.gh 4).v=.int .i64 l.length:=by rw [cg2]; simp [q2P,e4]
  have g5:(s'.gh 5).v=.ptr 5 (n0 + 3) 0:=by rw [cg2]; simp [q2P,e5]
  have g6:(s'.gh 6).v=.int .i64 z:=by rw [cg2]; simp [q2P,e6]
  have g8:(s'.gh 8).v=.ptr 8 (s.next + 1) 0:=by rw [cg2]; simp [q2P]
  have m8:s'.mem 8 (s.next + 1)=some [⟨.int .i64 6,.no⟩,⟨.str (Utf8.encode (65 + z)),.no⟩,⟨.int .i64 0,.no⟩,⟨.int .i64 0,.no⟩,⟨.int .i64 0,.no⟩,⟨.sl true [],.no⟩,⟨.sl true [],.no⟩,⟨.int .i64 0,.no⟩,⟨.int .i64 0,.no⟩,⟨.bool (decide (x.b % 2=1)),.no⟩]:=by rw [cm2 8 (s.next + 1) (by omega)]; simp
  have hgl:LowE s'.next s'.gh:=by
   rw [cg2];refine LowE.wait ?_ (by rw [cg]; exact hG.mono (by omega))
   repeat (first | exact lowE.mono (by omega) | refine LowE.put ?_ (fun _ _ _=>rfl) | refine LowE.put ?_ (q1F (by omega)))
  have fin:∀ (E:Nat->Slot) (M:Nat->Nat->Option (List Slot)) (row:List Slot) (nx:Nat),(∀ t,t<9->(E t).v=(s'.gh t).v)->LowE s'.next E->s'.next<nx->(∀ t n,M t n=if t=8/\n=s.next + 1 then some row else s'.mem t n)->(∀ q∈row,lowV s'.next q.v)->(∃ m,row.map (·.v)=typL (typZ l z) m/\q6Q (typZ l z).mems m s')->q8Q n0 s0 dn l i (s.next + 1) ⟨E,M,nx,s'.obj,restE 171 s'.gh⟩:=fun E M row nx hE hEl hnx hM hrl hr=>by
   refine ⟨⟨?_,?_,?_,?_,?_,?_,?_,?_,⟨?_,?_,?_,?_,?_⟩,?_,?_⟩,?_,?_,?_⟩
   ·exact (hE 1 (by omega)).trans g1
   ·simp [hM,cm2 1 n0 (by omega),m1]
   ·exact (hE 2 (by omega)).trans g2
   ·simpa [hM,cm2 2 n0 (by omega)] using m2
   ·exact (hE 4 (by omega)).trans g4
   ·exact (hE 5 (by omega)).trans g5
   ·exact (hE 6 (by omega)).trans (by rw [g6,hz])
   ·refine m5.keep (by simp [hM,cm2 5 (n0 + 3) (by omega)]) (fun N hN=>by simp [hM,cm2 168 N (by omega)]) (fun N hN=>by simp [hM,cm2 88 N (by omega)]) (by dsimp only; omega)
   ·intro t n hn;show M t n=_;rw [hM,if_neg (by omega),cm2 t n (by omega)];simp [show ¬ n=s.next from by omega,show ¬ n=s.next + 1 from by omega,cm t n hn]
   ·show restE 171 s'.gh=s0.gh;rw [cg2,rest_wait];exact cg
   ·exact co2.trans co
   ·dsimp only; omega
   ·intro t n r' hr' q hq;have hr':M t n=some r':=hr';rw [hM] at hr';split at hr'
    ·injection hr' with hr'; subst hr';exact q4W (by dsimp only; omega) (hrl q hq)
    ·exact q4W (by dsimp only; omega) (cl2 t n r' hr' q hq)
   ·exact hEl.mono (by dsimp only; omega)
   ·dsimp only; omega
   ·exact (hE 8 (by omega)).trans g8
   ·dsimp only; omega
   ·obtain ⟨m,hr1,hr2⟩:=hr;rw [<- hz];refine ⟨m,row,by show M 8 _=_; rw [hM,if_pos ⟨rfl,rfl⟩],hr1,hr2.keep (fun N hN=>?_) (by dsimp only; omega)⟩;show M 88 N=_;rw [hM,if_neg (by omega)]
  rcases hms with ⟨h0,e⟩ | ⟨N,h0,_,e,_⟩
  ·simp [-y0,-y5,-y4,y3,g8,m8,e];refine hk _ _ (fin _ _ _ _ (fun t ht=>?_) ?_ (by omega) (fun t n=>by simp [q0z]; split <;> rfl) (fun q hq=>?_) ?_)
   ·have q:∀ c,9<=c->¬ t=c:=fun c hc=>by omega
    simp [q,q7Y,show t<171 from by omega]
   ·repeat (first | exact hgl.back | refine LowE.put ?_ (fun _ _ _=>rfl) | refine LowE.put ?_ (q1F (by omega)) | refine LowE.put ?_ hyl | refine LowE.put ?_ (by rw [<- e]; exact hyl))
   ·simp only [yj,yJ,or_false] at hq;rcases hq with rfl | rfl | rfl | rfl | rfl | rfl | rfl | rfl | rfl | rfl <;> first | exact q7M rfl | (rw [<- e]; exact hyl)
   ·refine ⟨.sl true [],?_,.inl ⟨?_,rfl⟩⟩
    ·rw [hty,if_pos (by simp [h0])]; simp [typL,Typ.of,q7t]
    ·rw [hty,if_pos (by simp [h0])]; rfl
  ·have hl0:¬ ((q3i l z false x.parts).length:Int)=0:=by
    have:=List.length_pos_iff.2 h0;omega
   simp [-y0,-y5,-y4,y3,g8,m8,e,hl0,h0];refine hk _ _ (fin _ _ _ _ (fun t ht=>?_) ?_ (by omega) (fun t n=>by simp [q0z]; rfl) (fun q hq=>?_) ?_)
   ·have q:∀ c,9<=c->¬ t=c:=fun c hc=>by omega
    simp [q,q7Y,show t<171 from by omega]
   ·repeat (first | exact hgl.back | refine LowE.put ?_ (fun _ _ _=>rfl) | refine LowE.put ?_ (q1F (by omega)) | refine LowE.put ?_ hyl | refine LowE.put ?_ (by rw [<- e]; exact hyl))
   ·simp only [yj,yJ,or_false] at hq;rcases hq with rfl | rfl | rfl | rfl | rfl | rfl | rfl | rfl | rfl | rfl <;> first | exact q7M rfl | (rw [<- e]; exact hyl)
   ·exact ⟨y.v,by rw [hty,if_neg (by simpa using h0),e]; simp [typL,Typ.of,q7t],by rw [hty,if_neg (by simpa using h0)]; exact hli.mems⟩
end
section
set_option maxHeartbeats 4000000
structure OfJ (n0:Nat) (s0:MSt) (dn:Bool) (l:List Nde) (i j:Nat) (s:MSt):Prop where
 e1:(s.env 1).v=.ptr 1 n0 0
 m1:s.mem 1 n0=some [⟨.sl dn (l.map ndeC),.no⟩]
 e2:(s.env 2).v=.ptr 2 n0 0
 m2:∃ a,s.mem 2 n0=some [⟨.sl true [],a⟩]/\qa0 ⟨.sl true [],a⟩
 e4:(s.env 4).v=.int .i64 l.length
 e5:(s.env 5).v=.ptr 5 (n0 + 3) 0
 e6:(s.env 6).v=.int .i64 i
 m5:M5I n0 l j s
 calm:Calm n0 s0 s
 lowE:LowE s.next s.env
 lt:n0 + 3<s.next
theorem q3k {sz:Nat} {L:List (List AV)} (h:∀ c∈L,c.length=sz):q5g (q0g L) sz 0 L.length=some L:=by
 have hlen:∀ {L:List (List AV)},(∀ c∈L,c.length=sz)->L.flatten.length=L.length * sz:=by
  intro L h
  induction L with
  | nil=>simp
  | cons c r ih =>
   simp only [yG,yu,yK];rw [ih fun c hc=>h c (yp _ hc),h c yl,yB];omega
 have hv:∀ l:List AV,(l.map fun v=>(⟨v,An.no⟩:Slot)).map (·.v)=l:=fun l=>by simp [Function.comp_def]
 unfold q5g;rw [if_pos (by rw [q0g,yx,hlen h]; omega)];congr 1;refine List.ext_getElem (by simp) fun i h1 h2=>?_
 simp only [List.getElem_map,List.getElem_range,yy];simp only [q0g];rw [<- List.map_drop,<- List.map_take,hv]
 induction L generalizing i with
 | nil=>simp at h2
 | cons c r ih =>
  have hc:=h c yl;cases i with
  | zero=>simp [<- hc]
  | succ i =>
   simp only [yG,List.getElem_cons_succ];rw [yB,Nat.add_comm,<- hc,<- List.drop_drop];rw [List.drop_left,hc];exact ih (fun c hc=>h c (yp _ hc)) i (by simpa using h2) (by simpa using h2)
theorem q6Q.stay2 {ms:List Mem} {c:AV} {s s':MSt} (h:q6Q ms c s) (hm:∀ n L,q2t L=true->s.mem 88 n=some (q0g L)->s'.mem 88 n=some (q0g L)) (hn:s.next<=s'.next):q6Q ms c s':=by
 rcases h with h | ⟨N,h1,h2,h3,h4⟩
 ·exact .inl h
 ·exact .inr ⟨N,h1,yX h2 hn,h3,hm N _ (mems_free _) h4⟩
theorem q6T.stay2 {S:List Typ} {L:List (List AV)} {s s':MSt} (h:q6T S L s) (hm:∀ n L,q2t L=true->s.mem 88 n=some (q0g L)->s'.mem 88 n=some (q0g L)) (hn:s.next<=s'.next):q6T S L s' :=
 ⟨h.1,fun i t c ht hc=>by obtain ⟨m,h1,h2⟩:=h.2 i t c ht hc; exact ⟨m,h1,h2.stay2 hm hn⟩⟩
theorem tail_ev {r:RV} {n0:Nat} {s0:MSt} {dn:Bool} {l:List Nde} (hl:oks l) (hM0:LowM n0 s0.mem) (hG:LowE n0 s0.gh) {i:Nat} (hi:i<l.length) {n8:Nat} {s:MSt} {k:Ex->MSt->Option RV} (h:q8Q n0 s0 dn l i n8 s) (hk:∀ s',OfJ n0 s0 dn l i (i + 1) s'->k .nrm s'=some r):q26.run (evC allT q01) (evK allT q01) s k=some r:=by
 obtain ⟨⟨e1,m1,e2,m2,e4,e5,e6,m5,⟨cm,cg,co,cn,cl⟩,lowE,lt⟩,e8,lt8,m,row,m8,hrow,hms⟩:=h;have hN5:=hl.2.1;generalize hT:typZ l (i:Int)=T at *
 have hmm:=hms;have hlen:row.length=10:=by have:=congrArg List.length hrow; simpa [typL] using this
 have hld:q17 true 10 0 row=some ⟨.agg (typL T m),.no⟩:=by
  unfold q17;simp [hlen,<- hrow];rw [yO (by rw [yx]; omega)]
 have hCl:(typL T m).length=10:=rfl;have hmf:∀ t n,t≠88->m.noName t n=true:=fun t n ht=>by
  rcases hms with ⟨_,rfl⟩ | ⟨N,_,_,rfl,_⟩
  ·rfl
  ·simp [AV.noName];omega
 have hmw:m.leaf=true:=by
  rcases hms with ⟨_,rfl⟩ | ⟨N,_,_,rfl,_⟩ <;> rfl
 have hnn:∀ t n,t≠88->(typL T m).all (AV.noName t n)=true:=fun t n ht=>by
  refine y6.2 fun c hc=>?_
  simp only [typL,yj,yJ,or_false] at hc;rcases hc with rfl | rfl | rfl | rfl | rfl | rfl | rfl | rfl | rfl | rfl <;> first | exact hmf t n ht | rfl
 have hlowC:∀ c∈typL T m,low0 s.next c:=fun c hc=>by
  simp only [typL,yj,yJ,or_false] at hc;rcases hc with rfl | rfl | rfl | rfl | rfl | rfl | rfl | rfl | rfl | rfl <;> first | exact hmm.low | exact q98 rfl
 have hleafC:∀ c∈typL T m,c.leaf=true:=fun c hc=>by
  simp only [typL,yj,yJ,or_false] at hc;rcases hc with rfl | rfl | rfl | rfl | rfl | rfl | rfl | rfl | rfl | rfl <;> first | exact hmw | rfl
 have hroom:q10 120 (i + 1)=true:=by rw [q0l]; omega
 have hw1:(AV.agg (typL T m)).whole=true:=rfl;rcases m5 with ⟨hi0,a,h5,hp5⟩ | ⟨N,L,hi0,h5,hN0,hN,h168,hLl,hty⟩
 ·subst hi0;have helC:q1f 10 [typL T m]=true:=rfl;have hraw:q5g (q0g [typL T m]) 10 0 1=some [typL T m]:=q3k (L:=[typL T m]) (by simp [hCl]);generalize hC:typL T m=C at *
  have hC2:C.length=10:=hCl;simp [q26,-y0,-y5,-y4,y3,-q17,-q0i,q0K,q0U,q0p,q0q,e5,e8,h5,m8,hld,AV.raws,hraw,hroom,helC,hC2];have hlowR:∀ x∈q0g [C],lowV s.next x.v:=low_row (fun c hc=>by simp only [List.mem_singleton] at hc; subst hc; exact hlowC) (fun c hc=>by simp only [List.mem_singleton] at hc; subst hc; exact hleafC);refine hk _ ⟨?_,?_,?_,?_,?_,?_,?_,.inr ⟨s.next,[C],by omega,by simp,by omega,by dsimp only; omega,by simp,rfl,?_⟩,⟨?_,?_,?_,?_,?_⟩,?_,?_⟩
  ·simp [e1]
  ·simp [m1]
  ·simp [e2]
  ·simpa using m2
  ·simp [e4]
  ·simp [e5]
  ·simp [e6]
  ·refine ⟨rfl,fun j t c ht hc=>?_⟩;have hj:j=0:=by
    rcases yE j with h0 | h0
    ·exact h0
    ·rw [List.getElem?_eq_none (by simp; omega)] at hc; cases hc
   subst hj;simp at ht hc;subst ht;subst hc;rw [show typZ l (0:Int)=T from hT];exact ⟨m,hC.symm,hms.keep (fun N hN=>by simp) (by dsimp only; omega)⟩
  ·repeat (first | exact cm | refine q24.set ?_ (by omega))
  ·exact cg
  ·exact co
  ·dsimp only; omega
  ·exact ((((cl.set hlowR).set hlowR).mono (Nat.le_succ _)).set fun x hx=>by simp at hx; subst hx; exact q99 (by omega))
  ·dsimp only;have hag:lowV s.next (.agg C):=lowV_agg hlowC
   repeat (first | exact lowE.mono (by omega) | refine LowE.put ?_ (fun _ _ _=>rfl) | refine LowE.put ?_ (q1F (by omega)) | refine LowE.put ?_ (q99 (by omega)) | refine LowE.put ?_ (q4W (by omega) hag))
  ·dsimp only; omega
 ·have hels:∀ c∈L,c.length=10:=fun c hc=>by simpa using y6.1 hty.els c hc
  have helC:q1f 10 [typL T m]=true:=rfl;have hraw:q5g (q0g [typL T m]) 10 0 1=some [typL T m]:=q3k (L:=[typL T m]) (by simp [hCl]);have hraw2:q5g (q0g L) 10 0 i=some L:=by rw [<- hLl]; exact q3k hels
  have hnn2:(L++[typL T m]).flatten.all (AV.noName 168 N)=true:=by
   rw [List.flatten_append,List.all_append,yb];refine ⟨y6.2 fun v hv=>?_,by simpa using hnn 168 N (by omega)⟩;obtain ⟨c,hc,hv⟩:=List.mem_flatten.1 hv;obtain ⟨j,hj,rfl⟩:=yC hc;have hjS:j<((List.range i).map fun (j:Nat)=>typZ l (j:Int)).length:=by rw [hty.1]; exact hj
   obtain ⟨m',h1,h2⟩:=hty.2 j _ _ (y7 hjS) (y7 hj);rw [h1] at hv;simp only [typL,yj,yJ,or_false] at hv;rcases hv with rfl | rfl | rfl | rfl | rfl | rfl | rfl | rfl | rfl | rfl <;> first | rfl | skip
   rcases h2 with ⟨_,rfl⟩ | ⟨N',_,_,rfl,_⟩ <;> rfl
  generalize hC:typL T m=C at *
  have hC2:C.length=10:=hCl;simp [q26,-y0,-y5,-y4,y3,-q17,-q0i,q0K,q0U,q0p,q0q,e5,e8,h5,m8,hld,AV.raws,hraw,hraw2,h168,hroom,helC,hC2,hnn2,-y6,-List.flatten_append,-List.all_flatten,-List.all_append];have hgh:killE 168 N s.gh=s.gh:=by rw [cg]; exact hG.same hN0
  have hst:∀ (s':MSt),s'.mem=setM (setM (killM 168 N (setM s.mem 167 s.next (q0g [C]))) 168 s.next (q0g (L++[C]))) 5 (n0 + 3) [⟨.ref 168 s.next 10 0 (i + 1) (i + 1),.no⟩]->∀ n L,q2t L=true->s.mem 88 n=some (q0g L)->s'.mem 88 n=some (q0g L):=fun s' hs' n L' hL' h'=>by
   rw [hs'];simp [h',rowOf_kill hL']
  have hlowR:∀ x∈q0g [C],lowV s.next x.v:=low_row (fun c hc=>by simp only [List.mem_singleton] at hc; subst hc; exact hlowC) (fun c hc=>by simp only [List.mem_singleton] at hc; subst hc; exact hleafC);have hlowR2:∀ x∈q0g (L++[C]),lowV s.next x.v:=fun x hx=>by
   rw [q0g,List.flatten_append,List.map_append] at hx;rcases yA.1 hx with hx | hx
   ·exact cl 168 N _ h168 x hx
   ·exact hlowR x hx
  refine hk _ ⟨?_,?_,?_,?_,?_,?_,?_,.inr ⟨s.next,L++[C],by omega,by simp,by omega,by dsimp only; omega,by simp,by simp [hLl],?_⟩,⟨?_,?_,?_,?_,?_⟩,?_,?_⟩
  ·simp [q0x,e1,AV.kill,AV.kill0]
  ·simp [q0B,m1,AV.kill,AV.kill0]
  ·simp [q0x,e2,AV.kill,AV.kill0]
  ·obtain ⟨a,m2,p2⟩:=m2;exact ⟨a,by simp [q0B,m2,AV.kill,AV.kill0],p2⟩
  ·simp [q0x,e4,AV.kill,AV.kill0]
  ·simp [q0x,e5,AV.kill,AV.kill0]
  ·simp [q0x,e6,AV.kill,AV.kill0]
  ·rw [y3,List.map_append,yk,yn,hT];subst hC;exact (hty.stay2 (hst _ rfl) (by dsimp only; omega)).snoc (hms.stay2 (hst _ rfl) (by dsimp only; omega))
  ·exact (((cm.set (by omega)).kill hM0 hN0).set (by omega)).set (by omega)
  ·show killE 168 N s.gh=s0.gh;rw [hgh];exact cg
  ·exact co
  ·dsimp only; omega
  ·exact ((((cl.set hlowR).kill.set hlowR2).mono (Nat.le_succ _)).set fun x hx=>by simp at hx; subst hx; exact q99 (by omega))
  ·dsimp only;have hag:lowV s.next (.agg C):=lowV_agg hlowC;have hN':N<s.next + 1:=by omega
   repeat (first | exact lowE.mono (by omega) | refine LowE.kill ?_ | refine LowE.put ?_ (fun _ _ _=>rfl) | refine LowE.put ?_ (q1F (by omega)) | refine LowE.put ?_ (q99 (by omega)) | refine LowE.put ?_ (q4W (by omega) hag))
  ·dsimp only; omega
end
section
set_option maxHeartbeats 4000000
theorem head_ev {r:RV} {n0:Nat} {s0:MSt} {dn:Bool} {l:List Nde} (hl:oks l) (hM:LowM n0 s0.mem) (hP:PureM n0 s0.mem) (hG:LowE n0 s0.gh) (hG':PureE s0.gh) {i:Nat} (hi:i<l.length) {s:MSt} {k:Ex->MSt->Option RV} (h:OfI n0 s0 dn l i s) (hk:∀ s',OfJ n0 s0 dn l i (i + 1) s'->k .nrm s'=some r):q16.run (evC allT q01) (evK allT q01) s k=some r:=by
 have ht:∀ n8 s',q8Q n0 s0 dn l i n8 s'->q26.run (evC allT q01) (evK allT q01) s' k=some r:=fun n8 s' h'=>tail_ev hl hM hG hi h' hk
 have hx:=q3w hl hi;have hr:1<=(ndAt l (i:Int)).kind/\(ndAt l (i:Int)).kind<=9:=by
  have:=hx.1.1;simp only [Nde.kind];omega
 by_cases h1:(ndAt l (i:Int)).kind=1
 ·exact kind1_ev hl hi h h1 ht
 by_cases h2:(ndAt l (i:Int)).kind=2
 ·exact kind2_ev hl hi h h2 ht
 by_cases h3:(ndAt l (i:Int)).kind=3
 ·exact kind3_ev hl hi h h3 ht
 by_cases h4:(ndAt l (i:Int)).kind=4
 ·exact kind4_ev hl hG' hP hi h h4 ht
 by_cases h5:(ndAt l (i:Int)).kind=5
 ·exact kind5_ev hl hG hi h h5 ht
 by_cases h6:(ndAt l (i:Int)).kind=6
 ·exact kind6_ev hl hG hi h h6 ht
 by_cases h7:(ndAt l (i:Int)).kind=7
 ·exact kind7_ev hl hi h h7 ht
 by_cases h8:(ndAt l (i:Int)).kind=8
 ·by_cases hc:keyZ l (ndAt l (i:Int)).b<0
  ·exact kind8n_ev hl hi h h8 hc ht
  ·exact kind8p_ev hl hi h h8 hc ht
 ·exact kind9_ev hl hi h (by omega) ht
theorem OfJ.toI {n0:Nat} {s0:MSt} {dn:Bool} {l:List Nde} {i j:Nat} {s:MSt} (h:OfJ n0 s0 dn l i j s) {E:Nat->Slot} {nx:Nat} (hE:∀ t,t<9->¬ t=6->(E t).v=(s.env t).v) (h6:(E 6).v=.int .i64 j) (hL:LowE nx E) (hn:s.next<=nx):OfI n0 s0 dn l j ⟨E,s.mem,nx,s.obj,s.gh⟩:=by
 obtain ⟨e1,m1,e2,m2,e4,e5,e6,m5,⟨cm,cg,co,cn,cl⟩,lowE,lt⟩:=h;exact ⟨(hE 1 (by omega) (by omega)).trans e1,m1,(hE 2 (by omega) (by omega)).trans e2,m2,(hE 4 (by omega) (by omega)).trans e4,(hE 5 (by omega) (by omega)).trans e5,h6,m5.keep rfl (fun _ _=>rfl) (fun _ _=>rfl) hn,⟨cm,cg,co,by dsimp only; omega,cl.mono hn⟩,hL,by dsimp only; omega⟩
theorem OfI.toJ {n0:Nat} {s0:MSt} {dn:Bool} {l:List Nde} {i:Nat} {s:MSt} (h:OfI n0 s0 dn l i s):OfJ n0 s0 dn l i i s:=⟨h.e1,h.m1,h.e2,h.m2,h.e4,h.e5,h.e6,h.m5,h.calm,h.lowE,h.lt⟩
def q0d (l:List Nde):List Typ:=(List.range l.length).map fun (j:Nat)=>typZ l (j:Int)
structure OfEnd (s0:MSt) (l:List Nde) (s:MSt):Prop where
 calm:Calm s0.next s0 s
 e2:(s.env 2).v=.ptr 2 s0.next 0
 e3:(s.env 3).v=.bool true
 lt:s0.next<s.next
 typs:∃ N L,s.mem 2 s0.next=some [⟨.ref 168 N 10 0 l.length l.length,.no⟩]/\s0.next<=N/\N<s.next/\s.mem 168 N=some (q0g L)/\L.length=l.length/\q6T (q0d l) L s
theorem of_run {r:RV} {dn:Bool} {l:List Nde} (hl:oks l) (s0:MSt) (h0:(s0.env 0).v=.agg (dftC dn l)) (hM:LowM s0.next s0.mem) (hP:PureM s0.next s0.mem) (hE:LowE s0.next s0.env) (hG:LowE s0.next s0.gh) (hG':PureE s0.gh) (k:Ex->MSt->Option RV) (hk:∀ s',OfEnd s0 l s'->k .ret s'=some r):q2Y.code.run (evC allT q01) (evK allT q01) s0 k=some r:=by
 have hN1:=hl.1;have hN5:=hl.2.1;have c1:¬ (l.length:Int)<1:=by omega
 have c2:¬ 5<(l.length:Int):=by omega
 simp only [dftC] at h0;simp [q2Y,-y0,-y5,-y4,y3,h0,c1,c2];refine q0f l.length (fun i s=>OfI s0.next s0 dn l i s) (fun e s=>e=.exit 0/\OfI s0.next s0 dn l l.length s) (fun i hi s k' h ih hk'=>?_) _ _ ?_ (fun e s h=>?_)
 ·refine q04 ?_;rw [of_L2];by_cases hlt:i<l.length
  ·have hwi:=q11 (i:=i) (by omega);simp [-y0,-y5,-y4,y3,h.e4,h.e6,hlt];refine head_ev hl hM hP hG hG' hlt (h.toJ.toI (fun t ht h6=>?_) ?_ ?_ ?_) (fun s' hj=>?_)
   ·have q:∀ c,9<=c->¬ t=c:=fun c hc=>by omega
    simp [q]
   ·simp [h.e6]
   ·try dsimp only
    repeat (first | exact h.lowE.mono (by omega) | refine LowE.put ?_ (fun _ _ _=>rfl))
   ·(try dsimp only); omega
   ·simp [-y0,-y5,-y4,y3,hj.e6,hwi];refine ih hlt _ (hj.toI (fun t ht h6=>?_) ?_ ?_ ?_)
    ·have q:∀ c,9<=c->¬ t=c:=fun c hc=>by omega
     simp [q,h6]
    ·simp
    ·try dsimp only
     repeat (first | exact hj.lowE.mono (by omega) | refine LowE.put ?_ (fun _ _ _=>rfl))
    ·(try dsimp only); omega
  ·have hie:i=l.length:=by omega
   subst hie;simp [-y0,-y5,-y4,y3,h.e4,h.e6];refine hk' _ _ ⟨rfl,h.toJ.toI (fun t ht h6=>?_) ?_ ?_ ?_⟩
   ·have q:∀ c,9<=c->¬ t=c:=fun c hc=>by omega
    simp [q]
   ·simp [h.e6]
   ·try dsimp only
    repeat (first | exact h.lowE.mono (by omega) | refine LowE.put ?_ (fun _ _ _=>rfl))
   ·(try dsimp only); omega
 ·refine ⟨?_,?_,?_,⟨.ex,?_,pureS_ex _⟩,?_,?_,?_,.inl ⟨rfl,.ex,?_,pureS_ex _⟩,⟨?_,?_,?_,?_,?_⟩,?_,?_⟩
  all_goals first | (simp; done) | skip
  ·dsimp only
   repeat (first | exact q24.refl | refine q24.set ?_ (by omega))
  ·dsimp only; omega
  ·exact (((((hM.mono (by dsimp only; omega)).set (q05 (by simp [AV.free,AV.free0]))).set (q05 (by simp [AV.free,AV.free0]))).set (q05 (by simp [AV.free,AV.free0]))))
  ·dsimp only
   repeat (first | exact hE.mono (by omega) | refine LowE.put ?_ (fun _ _ _=>rfl) | refine LowE.put ?_ (q1F (by omega)))
 ·obtain ⟨rfl,h⟩:=h;obtain ⟨e1,m1,e2,⟨a2,m2,p2⟩,e4,e5,e6,m5,⟨cm,cg,co,cn,cl⟩,lowE,lt⟩:=h;rcases m5 with ⟨hi0,_⟩ | ⟨N,L,hi0,h5,hN0,hN,h168,hLl,hty⟩
  ·omega
  simp [-y0,-y5,-y4,y3,e5,h5,e2,m2];refine hk _ ⟨⟨?_,?_,?_,?_,?_⟩,?_,?_,?_,N,L,?_,hN0,?_,?_,hLl,?_⟩
  ·exact cm.set (ym _)
  ·exact cg
  ·exact co
  ·dsimp only; omega
  ·exact (cl.mono (Nat.le_succ _)).set fun x hx=>by simp at hx; subst hx; exact q99 (by omega)
  ·simp [e2]
  ·simp
  ·dsimp only; omega
  ·simp
  ·dsimp only; omega
  ·simp [h168]
  ·exact hty.keep (fun N _=>by simp) (by dsimp only; omega)
end
section
set_option maxHeartbeats 4000000
theorem of_bad {r:RV} {dn:Bool} {l:List Nde} (hl:¬ (1<=l.length/\l.length<=5)) (s0:MSt) (h0:(s0.env 0).v=.agg (dftC dn l)) (hM:LowM s0.next s0.mem) (k:Ex->MSt->Option RV) (hk:∀ s',Calm s0.next s0 s'->(s'.env 2).v=.ptr 2 s0.next 0->(s'.env 3).v=.bool false->s'.mem 2 s0.next=some [⟨.sl true [],.no⟩]->k .ret s'=some r):q2Y.code.run (evC allT q01) (evK allT q01) s0 k=some r:=by
 simp only [dftC] at h0;by_cases c1:(l.length:Int)<1
 ·have c1':l.length=0:=by omega
  have c1'':l=[]:=yP c1';subst c1'';simp [q2Y,-y0,-y5,-y4,y3,h0];refine hk _ ⟨?_,rfl,rfl,?_,?_⟩ ?_ ?_ ?_
  ·dsimp only
   repeat (first | exact q24.refl | refine q24.set ?_ (by omega))
  ·dsimp only; omega
  ·exact (((hM.mono (by dsimp only; omega)).set (q05 (by simp [AV.free,AV.free0]))).set (q05 (by simp [AV.free,AV.free0]))).set (q05 (by simp [AV.free,AV.free0]))
  ·simp
  ·simp
  ·simp
 ·have c2:5<(l.length:Int):=by omega
  simp [q2Y,-y0,-y5,-y4,y3,h0,c1,c2];refine hk _ ⟨?_,rfl,rfl,?_,?_⟩ ?_ ?_ ?_
  ·dsimp only
   repeat (first | exact q24.refl | refine q24.set ?_ (by omega))
  ·dsimp only; omega
  ·exact (((hM.mono (by dsimp only; omega)).set (q05 (by simp [AV.free,AV.free0]))).set (q05 (by simp [AV.free,AV.free0]))).set (q05 (by simp [AV.free,AV.free0]))
  ·simp
  ·simp
  ·simp
end
theorem row_split {sz:Nat} {L:List (List AV)} (h:q1f sz L=true) {k:Nat} {c:List AV} (hk:L[k]?=some c) :
  q0g L=q0g (L.take k)++(c.map (⟨·,.no⟩)++q0g (L.drop (k + 1)))/\(q0g (L.take k)).length=k * sz/\k<L.length/\c.length=sz:=by
 obtain ⟨hlt,he⟩:=ye.1 hk;have h1:q1f sz (L.take k)=true:=y6.2 fun x hx=>y6.1 h x (List.mem_of_mem_take hx)
 refine ⟨?_,?_,hlt,?_⟩
 ·have:L=L.take k++(c :: L.drop (k + 1)):=by rw [<- he,<- yc hlt,List.take_append_drop]
  have h2:=congrArg q0g this;rw [q6j] at h2;rw [h2];simp [q0g]
 ·rw [q5X h1,yD,Nat.min_eq_left (by omega)]
 ·have:=y6.1 h c (yo hk);simpa using this
theorem row_join {L:List (List AV)} {k:Nat} (hk:k<L.length) (c:List AV):q0g (L.take k)++(c.map (⟨·,.no⟩)++q0g (L.drop (k + 1)))=q0g (L.set k c):=by
 have:L.set k c=L.take k++(c :: L.drop (k + 1)):=by
  rw [List.set_eq_take_append_cons_drop,if_pos hk]
 rw [this,q6j];simp [q0g]
theorem row_get1 {sz:Nat} {L:List (List AV)} (h:q1f sz L=true) {k j:Nat} {c:List AV} (hk:L[k]?=some c) {v:AV} (hj:c[j]?=some v) (z:Nat):q17 false z (k * sz + j) (q0g L)=some ⟨v,.no⟩:=by
 obtain ⟨h1,h2,h3,h4⟩:=row_split h hk;obtain ⟨hjl,_⟩:=ye.1 hj;rw [h1,q0K,yQ (by omega),h2,Nat.add_sub_cancel_left,yM (by simpa using hjl),yf,hj];rfl
theorem row_set1 {sz:Nat} {L:List (List AV)} (h:q1f sz L=true) {k j:Nat} {c:List AV} (hk:L[k]?=some c) (hj:j<c.length) {x:AV} (hx:x.leaf=true) (z:Nat):q0i false z (k * sz + j) (q0g L) x .no=some (q0g (L.set k (c.set j x))):=by
 obtain ⟨h1,h2,h3,h4⟩:=row_split h hk;rw [<- row_join h3,h1];unfold q0i;simp only [yr,if_false];rw [if_pos ⟨hx,by simp only [yu,yx,h2]; omega⟩];congr 1;rw [List.set_append_right (h:=by omega),h2,Nat.add_sub_cancel_left,List.set_append_left (h:=by simpa using hj),List.map_set]
theorem rowEls_eq (row:List Slot) (sz off len:Nat):q3u row sz off len=if row.all (fun x=>x.v.free0)=true then q5g row sz off len else none:=by
 unfold q3u q5g;by_cases h1:off + len * sz<=row.length <;> by_cases h2:row.all (fun x=>x.v.free0)=true <;> simp only [h1,h2,true_and,false_and,and_true,and_false,if_true,if_false,yr]
theorem frz1_free {s:MSt} {v:AV} (h:v.free0=true):AV.frz1 s v=v:=by
 cases v <;> first | rfl | (simp [AV.free0] at h; done)
theorem frz_row {s:MSt} {t n sz c:Nat} {L:List (List AV)} (h:q1f sz L=true) (hm:s.mem t n=some (q0g L)) (hf:(L.map fun c=>c.map (AV.frz1 s)).flatten.all AV.free0=true):AV.frz0 s (.ref t n sz 0 L.length c)=.sl false (L.map fun c=>c.map (AV.frz1 s)):=by
 have hr:q5g (q0g L) sz 0 L.length=some L:=q3k fun c hc=>by simpa using y6.1 h c hc
 simp only [AV.frz0,hm,y0,rowEls_eq];by_cases hall:(q0g L).all (fun x=>x.v.free0)=true
 ·rw [if_pos hall,hr];have:(L.map fun c=>c.map (AV.frz1 s))=L.map id:=yq fun c hc=>by
   have:c.map (AV.frz1 s)=c.map id:=yq fun v hv=>frz1_free (by
    have:=y6.1 hall ⟨v,.no⟩ (yz.2 ⟨v,List.mem_flatten.2 ⟨c,hc,hv⟩,rfl⟩);exact this)
   rwa [List.map_id] at this
  rw [this,List.map_id]
 ·rw [if_neg hall];simp only [rowDeep,hr,y0];rw [if_pos hf]
def rwM (n:Nat) (a b:Mem):Prop:=b.id=a.id/\b.name=a.name/\b.crit=a.crit/\(b=a\/(0<=b.ty/\b.ty<n/\b.has=false/\b.dflt=Vl.zero))
def rwL (n:Nat) (xs bs:List Mem):Prop:=xs.length=bs.length/\∀ (i:Nat) a b,xs[i]?=some a->bs[i]?=some b->rwM n a b
theorem rwL_refl (n:Nat) (xs:List Mem):rwL n xs xs:=⟨rfl,fun i a b h h'=>by
 rw [h] at h';injection h' with h';subst h';exact ⟨rfl,rfl,rfl,.inl rfl⟩⟩
def Mem.rewired (m:Mem) (ty:Int):Mem:=⟨m.id,m.name,ty,m.crit,false,Vl.zero⟩
theorem rwL_set {n:Nat} {xs bs:List Mem} (h:rwL n xs bs) {k:Nat} {m:Mem} (hk:bs[k]?=some m) {ty:Int} (h0:0<=ty) (h1:ty<n):rwL n xs (bs.set k (m.rewired ty)):=by
 obtain ⟨hl,h⟩:=h;refine ⟨by simpa using hl,fun i a b ha hb=>?_⟩;rw [List.getElem?_set] at hb;split at hb
 ·rename_i e;subst e;split at hb
  ·injection hb with hb;subst hb;obtain ⟨g1,g2,g3,_⟩:=h k a m ha hk;exact ⟨g1,g2,g3,.inr ⟨h0,h1,rfl,rfl⟩⟩
  ·cases hb
 ·exact h i a b ha hb
def MemsR (n:Nat) (xs:List Mem) (c:AV) (s:MSt):Prop :=
 (xs=[]/\c=.sl true [])\/∃ N bs,xs≠[]/\rwL n xs bs/\c=.ref 88 N 13 0 xs.length xs.length/\s.mem 88 N=some (q0g (bs.map memC))
def TypsR (n:Nat) (S:List Typ) (L:List (List AV)) (s:MSt):Prop:=S.length=L.length/\∀ (i:Nat) (t:Typ) (c:List AV),S[i]?=some t->L[i]?=some c->∃ m,c=typL t m/\MemsR n t.mems m s
theorem q6T.toR {S:List Typ} {L:List (List AV)} {s:MSt} (h:q6T S L s) (n:Nat):TypsR n S L s:=⟨h.1,fun i t c ht hc=>by
 obtain ⟨m,h1,h2⟩:=h.2 i t c ht hc;refine ⟨m,h1,?_⟩;rcases h2 with h2 | ⟨N,g1,_,g3,g4⟩
 ·exact .inl h2
 ·exact .inr ⟨N,_,g1,rwL_refl n _,g3,g4⟩⟩
theorem TypsR.els {n:Nat} {S:List Typ} {L:List (List AV)} {s:MSt} (h:TypsR n S L s):q1f 10 L=true:=by
 refine y6.2 fun c hc=>?_
 obtain ⟨i,hi,rfl⟩:=yC hc;have hlen:=h.1;obtain ⟨m,h1,_⟩:=h.2 i S[i] L[i] (y7 (by omega)) (y7 hi);rw [h1];rfl
theorem TypsR.keep {n:Nat} {S:List Typ} {L:List (List AV)} {s s':MSt} (h:TypsR n S L s) (hm:∀ N,s'.mem 88 N=s.mem 88 N):TypsR n S L s':=⟨h.1,fun i t c ht hc=>by
 obtain ⟨m,h1,h2⟩:=h.2 i t c ht hc;refine ⟨m,h1,?_⟩;rcases h2 with h2 | ⟨N,bs,g1,g2,g3,g4⟩
 ·exact .inl h2
 ·exact .inr ⟨N,bs,g1,g2,g3,(hm N).trans g4⟩⟩
theorem memC_inj {a b:List Mem} (h:q0g (a.map memC)=q0g (b.map memC)) (hl:a.length=b.length):a.map memC=b.map memC:=by
 have h1:=q3k (sz:=13) (L:=a.map memC) (by simp [memC]);have h2:=q3k (sz:=13) (L:=b.map memC) (by simp [memC]);rw [h] at h1;simp only [yx] at h1 h2;rw [hl,h2] at h1;injection h1 with h1;exact h1.symm
theorem TypsR.store {n:Nat} {S:List Typ} {L:List (List AV)} {s s':MSt} (h:TypsR n S L s) {N k:Nat} {bs:List Mem} {m:Mem} (hN:s.mem 88 N=some (q0g (bs.map memC))) (hk:bs[k]?=some m) {ty:Int} (h0:0<=ty) (h1:ty<n) (hm:∀ N',s'.mem 88 N'=if N'=N then some (q0g ((bs.set k (m.rewired ty)).map memC)) else s.mem 88 N'):TypsR n S L s':=⟨h.1,fun i t c ht hc=>by
 obtain ⟨m',g1,g2⟩:=h.2 i t c ht hc;refine ⟨m',g1,?_⟩;rcases g2 with g2 | ⟨N',bs',g2,g3,g4,g5⟩
 ·exact .inl g2
 ·by_cases e:N'=N
  ·subst e;rw [hN] at g5;injection g5 with g5;have hlen:bs.length=bs'.length:=by
    have e1:=congrArg List.length g5;rw [q5X (els_mem _),q5X (els_mem _)] at e1;simp only [yx] at e1;omega
   have hmm:=memC_inj g5 hlen;have hk':k<bs'.length:=by rw [<- hlen]; exact (ye.1 hk).1
   have hkm:memC bs'[k]=memC m:=by
    have:=congrArg (·[k]?) hmm;simp only [yf,hk,y7 hk',yt,Option.some.injEq] at this;exact this.symm
   refine .inr ⟨N',bs'.set k (bs'[k].rewired ty),g2,rwL_set g3 (y7 hk') h0 h1,g4,?_⟩;rw [hm,if_pos rfl,List.map_set,List.map_set,hmm];have:memC (m.rewired ty)=memC (bs'[k].rewired ty):=by
    simp only [memC,List.cons.injEq,AV.int.injEq,AV.str.injEq,AV.bool.injEq,true_and] at hkm;simp only [memC,Mem.rewired,hkm.1,hkm.2.1,hkm.2.2.2.1]
   rw [this]
  ·exact .inr ⟨N',bs',g2,g3,g4,by rw [hm,if_neg e]; exact g5⟩⟩
def rwT (n:Nat) (a b:Typ):Prop:=∃ bs,rwL n a.mems bs/\b={ a with mn:=bs.isEmpty,mems:=bs }
def rwS (n:Nat) (S T:List Typ):Prop:=S.length=T.length/\∀ (i:Nat) a b,S[i]?=some a->T[i]?=some b->rwT n a b
section
theorem u8w (z:Int):u8 (IntKind.u8.wrap z):=by
 simp only [IntKind.wrap,IntKind.bits,IntKind.signed,u8];simp;omega
theorem set_self {α:Type} {xs:List α} {z:Nat} {q:α} (h:xs[z]?=some q):xs.set z q=xs:=by
 obtain ⟨hz,rfl⟩:=ye.1 h;exact List.set_getElem_self hz
theorem OwnP.pci {s:MSt} {ps:List Prt} {pc:Slot} (h:OwnP s ps pc) (ho:∀ p∈ps,p.ok) (hs:ps.length * 3<=140737488355328):PcI s.mem s.next pc:=by
 rcases h with ⟨rfl,rfl⟩ | ⟨_,N,rfl,h2,h3⟩
 ·exact .inl ⟨false,[],.ex,rfl,.inr rfl,by simp,by simp⟩
 ·exact .inr ⟨47,N,_,ps,rfl,.inl rfl,h2,h3,ho,hs⟩
section
variable {r:RV} {cn:Bool} {cs:List Chg} {L i:Nat} {xs:List Nd} {c:Chg} {z:Nat} {x:Nde} {pc:Slot} {ps:List Prt} {s:MSt}
theorem sw0 (hc:c.ok) (hm:c.kind % 8=0) (h:ChT cn cs L i xs c z x pc ps s) (k:Ex->MSt->Option RV) (hk:∀ s2 xs2,ChI cn cs L i xs2 s2->k .nrm s2=some r):q18.run (evC allT q01) (evK allT q01) s k=some r:=by
 obtain ⟨⟨e1,e4,e5,e6,m4,m5,nds,nx⟩,⟨n7,e7,m7⟩,e8,⟨kk,e9,hkk⟩,e67,hz,pcs,ok,sz⟩:=h;rw [hm] at e67;have hnum:=nds.num _ (yo hz);have m13:=nds.row;have g:=q2D hz 1 (by omega);have hst:∀ v,q0i false 1 (z * 5 + 1) (q0n xs) (.int .u8 v) .no=some (q0n (xs.set z ({ x with a:=v },pc))):=fun v=>q2p hz 1 (by omega) _ .no rfl rfl
 obtain ⟨R1,hR1⟩:∃ R1:Int->List Slot,∀ v,q0n (xs.set z ({ x with a:=v },pc))=R1 v:=⟨_,fun v=>rfl⟩;simp only [hR1] at hst;simp only [q6o] at g;simp at g;generalize hR0:q0n xs=R0 at *
 simp only [q6z] at m7;have h7:∀ n,¬ (7=13/\n=2):=by simp
 simp [q18,-y0,-y5,-y4,y3,-q17,-q0i,q0K,q0U,q0p,q0q,e7,m7,e8,e67,m13,g,hst];refine hk _ (xs.set z ({ x with a:=IntKind.u8.wrap (IntKind.u8.wrap (x.a + c.a.tmod 5) - 2) },pc)) ⟨?_,?_,?_,?_,?_,?_,nds.upd hz ?_ ⟨hnum.1,u8w _,hnum.2.2⟩ ?_ ?_ ?_ (.inl rfl),?_⟩
 ·simp [e1]
 ·simp [e4]
 ·simp [e5]
 ·simp [e6]
 ·simp [m4]
 ·simp [m5]
 ·simp [hR1]
 ·refine (pcs.pci ok sz).pres (ex:=none) ?_ (by dsimp only; omega) (by simp);exact Pres.set (Pres.refl _ _ _) (.inr (by decide))
 ·exact Pres.set (Pres.refl _ _ _) (.inr (by decide))
 ·dsimp only; omega
 ·dsimp only; omega
theorem sw1 (hc:c.ok) (hm:c.kind % 8=1) (h:ChT cn cs L i xs c z x pc ps s) (k:Ex->MSt->Option RV) (hk:∀ s2 xs2,ChI cn cs L i xs2 s2->k .nrm s2=some r):q18.run (evC allT q01) (evK allT q01) s k=some r:=by
 obtain ⟨⟨e1,e4,e5,e6,m4,m5,nds,nx⟩,⟨n7,e7,m7⟩,e8,⟨kk,e9,hkk⟩,e67,hz,pcs,ok,sz⟩:=h;rw [hm] at e67;have hnum:=nds.num _ (yo hz);have m13:=nds.row;have g:=q2D hz 2 (by omega);have hst:∀ v,q0i false 1 (z * 5 + 2) (q0n xs) (.int .u8 v) .no=some (q0n (xs.set z ({ x with b:=v },pc))):=fun v=>q2p hz 2 (by omega) _ .no rfl rfl
 obtain ⟨R1,hR1⟩:∃ R1:Int->List Slot,∀ v,q0n (xs.set z ({ x with b:=v },pc))=R1 v:=⟨_,fun v=>rfl⟩;simp only [hR1] at hst;simp only [q6o] at g;simp at g;generalize hR0:q0n xs=R0 at *
 simp only [q6z] at m7;have h7:∀ n,¬ (7=13/\n=2):=by simp
 simp [q18,-y0,-y5,-y4,y3,-q17,-q0i,q0K,q0U,q0p,q0q,e7,m7,e8,e67,m13,g,hst];refine hk _ (xs.set z ({ x with b:=IntKind.u8.wrap (IntKind.u8.wrap (x.b + c.b.tmod 5) - 2) },pc)) ⟨?_,?_,?_,?_,?_,?_,nds.upd hz ?_ ⟨hnum.1,hnum.2.1,u8w _,hnum.2.2.2⟩ ?_ ?_ ?_ (.inl rfl),?_⟩
 ·simp [e1]
 ·simp [e4]
 ·simp [e5]
 ·simp [e6]
 ·simp [m4]
 ·simp [m5]
 ·simp [hR1]
 ·refine (pcs.pci ok sz).pres (ex:=none) ?_ (by dsimp only; omega) (by simp);exact Pres.set (Pres.refl _ _ _) (.inr (by decide))
 ·exact Pres.set (Pres.refl _ _ _) (.inr (by decide))
 ·dsimp only; omega
 ·dsimp only; omega
theorem sw3 (hc:c.ok) (hm:c.kind % 8=3) (h:ChT cn cs L i xs c z x pc ps s) (k:Ex->MSt->Option RV) (hk:∀ s2 xs2,ChI cn cs L i xs2 s2->k .nrm s2=some r):q18.run (evC allT q01) (evK allT q01) s k=some r:=by
 obtain ⟨⟨e1,e4,e5,e6,m4,m5,nds,nx⟩,⟨n7,e7,m7⟩,e8,⟨kk,e9,hkk⟩,e67,hz,pcs,ok,sz⟩:=h;rw [hm] at e67;have hnum:=nds.num _ (yo hz);have m13:=nds.row;have g:=q2D hz 3 (by omega);have hst:∀ v,q0i false 1 (z * 5 + 3) (q0n xs) (.int .u8 v) .no=some (q0n (xs.set z ({ x with c:=v },pc))):=fun v=>q2p hz 3 (by omega) _ .no rfl rfl
 obtain ⟨R1,hR1⟩:∃ R1:Int->List Slot,∀ v,q0n (xs.set z ({ x with c:=v },pc))=R1 v:=⟨_,fun v=>rfl⟩;simp only [hR1] at hst;simp only [q6o] at g;simp at g;generalize hR0:q0n xs=R0 at *
 simp only [q6z] at m7;have h7:∀ n,¬ (7=13/\n=2):=by simp
 simp [q18,-y0,-y5,-y4,y3,-q17,-q0i,q0K,q0U,q0p,q0q,e7,m7,e8,e67,m13,g,hst];refine hk _ (xs.set z ({ x with c:=IntKind.u8.wrap (x.c + c.a) },pc)) ⟨?_,?_,?_,?_,?_,?_,nds.upd hz ?_ ⟨hnum.1,hnum.2.1,hnum.2.2.1,u8w _⟩ ?_ ?_ ?_ (.inl rfl),?_⟩
 ·simp [e1]
 ·simp [e4]
 ·simp [e5]
 ·simp [e6]
 ·simp [m4]
 ·simp [m5]
 ·simp [hR1]
 ·refine (pcs.pci ok sz).pres (ex:=none) ?_ (by dsimp only; omega) (by simp);exact Pres.set (Pres.refl _ _ _) (.inr (by decide))
 ·exact Pres.set (Pres.refl _ _ _) (.inr (by decide))
 ·dsimp only; omega
 ·dsimp only; omega
theorem sw2 (hc:c.ok) (hm:c.kind % 8=2) (h:ChT cn cs L i xs c z x pc ps s) (k:Ex->MSt->Option RV) (hk:∀ s2 xs2,ChI cn cs L i xs2 s2->k .nrm s2=some r):q18.run (evC allT q01) (evK allT q01) s k=some r:=by
 obtain ⟨⟨e1,e4,e5,e6,m4,m5,nds,nx⟩,⟨n7,e7,m7⟩,e8,⟨kk,e9,hkk⟩,e67,hz,pcs,ok,sz⟩:=h;rw [hm] at e67;have hnum:=nds.num _ (yo hz);have m13:=nds.row;have g:=q2D hz 1 (by omega);have hst:∀ v,q0i false 1 (z * 5 + 1) (q0n xs) (.int .u8 v) .no=some (q0n (xs.set z ({ x with a:=v },pc))):=fun v=>q2p hz 1 (by omega) _ .no rfl rfl
 obtain ⟨R1,hR1⟩:∃ R1:Int->List Slot,∀ v,q0n (xs.set z ({ x with a:=v },pc))=R1 v:=⟨_,fun v=>rfl⟩;simp only [hR1] at hst;simp only [q6o] at g;simp at g;generalize hR0:q0n xs=R0 at *
 simp only [q6z] at m7;have h7:∀ n,¬ (7=13/\n=2):=by simp
 have h6:c.a.tmod 6=c.a % 6:=yw hc.2.2.1.1;have h60:0<=c.a % 6:=yI _ (by omega);simp [q18,-y0,-y5,-y4,y3,-q17,-q0i,q0K,q0U,q0p,q0q,h6,h60,bitsC,e7,m7,e8,e67,m13,g,hst];refine hk _ (xs.set z ({ x with a:=IntKind.u8.wrap (((x.a % 2 ^ IntKind.u8.bits).toNat ^^^ (IntKind.u8.wrap (2 ^ shN IntKind.u8 (c.a % 6)) % 2 ^ IntKind.u8.bits).toNat:Nat):Int) },pc)) ⟨?_,?_,?_,?_,?_,?_,nds.upd hz ?_ ⟨hnum.1,u8w _,hnum.2.2⟩ ?_ ?_ ?_ (.inl rfl),?_⟩
 ·simp [e1]
 ·simp [e4]
 ·simp [e5]
 ·simp [e6]
 ·simp [m4]
 ·simp [m5]
 ·simp [hR1]
 ·refine (pcs.pci ok sz).pres (ex:=none) ?_ (by dsimp only; omega) (by simp);exact Pres.set (Pres.refl _ _ _) (.inr (by decide))
 ·exact Pres.set (Pres.refl _ _ _) (.inr (by decide))
 ·dsimp only; omega
 ·dsimp only; omega
end
end
section
theorem Pres.setX {n:Nat} {ex:Option Nat} {M M':Nat->Nat->Option (List Slot)} (h:Pres n ex M M') {t' n':Nat} {r:List Slot} (hn:ex=some n'):Pres n ex M (setM M' t' n' r):=fun t N ps ht hN hx hm=>by
 rw [q0z,if_neg]
 ·exact h t N ps ht hN hx hm
 ·rintro ⟨rfl,rfl⟩;exact hx hn.symm
section
variable {r:RV} {cn:Bool} {cs:List Chg} {L i:Nat} {xs:List Nd} {c:Chg} {z:Nat} {x:Nde} {pc:Slot} {ps:List Prt} {s:MSt}
theorem ChI.nothing {E:Nat->Slot} {n:Nat} (h:ChI cn cs L i xs s) (h1:(E 1).v=(s.env 1).v) (h4:(E 4).v=(s.env 4).v) (h5:(E 5).v=(s.env 5).v) (h6:(E 6).v=(s.env 6).v) (hn:s.next<=n):ChI cn cs L i xs ⟨E,s.mem,n,s.obj,s.gh⟩:=by
 obtain ⟨e1,e4,e5,e6,m4,m5,nds,nx⟩:=h;exact ⟨h1.trans e1,h4.trans e4,h5.trans e5,h6.trans e6,m4,m5,⟨nds.len,nds.row,nds.num,fun q hq=>(nds.pc q hq).pres (ex:=none) (Pres.refl _ _ _) hn (by simp),nds.dist⟩,by dsimp only; omega⟩
theorem sw6 (hc:c.ok) (hm:c.kind % 8=6) (h:ChT cn cs L i xs c z x pc ps s) (k:Ex->MSt->Option RV) (hk:∀ s2 xs2,ChI cn cs L i xs2 s2->k .nrm s2=some r):q18.run (evC allT q01) (evK allT q01) s k=some r:=by
 obtain ⟨ch,⟨n7,e7,m7⟩,e8,⟨kk,e9,hkk⟩,e67,hz,pcs,ok,sz⟩:=h;have ch':=ch;obtain ⟨e1,e4,e5,e6,m4,m5,nds,nx⟩:=ch;rw [hm] at e67;have hnum:=nds.num _ (yo hz);have m13:=nds.row;have g:=q2D hz 4 (by omega);simp only [q6o] at g;simp at g;simp only [q6z] at m7;rcases pcs with ⟨rfl,rfl⟩ | ⟨hne,N,rfl,hN,hmN⟩
 ·generalize hR0:q0n xs=R0 at *
  simp [q18,-y0,-y5,-y4,y3,-q17,-q0i,q0K,q0U,q0p,q0q,e7,m7,e8,e67,m13,g];refine hk _ xs (ch'.nothing ?_ ?_ ?_ ?_ ?_)
  ·simp
  ·simp
  ·simp
  ·simp
  ·omega
 ·have hkl:=hkk hne;have hlp:0<ps.length:=List.length_pos_iff.2 hne;have hlpi:(0:Int)<ps.length:=by omega
  have hkli:(kk:Int)<ps.length:=by omega
  obtain ⟨p,hp⟩:∃ p,ps[kk]?=some p:=⟨_,y7 hkl⟩;have hst:=row_set1 (q57 ps) (k:=kk) (c:=prtC p) (by rw [yf,hp]; rfl) (j:=2) (by simp [prtC]) (x:=.int .u8 c.b) rfl 1;have hset:q0g ((ps.map prtC).set kk ((prtC p).set 2 (.int .u8 c.b)))=q0g ((ps.set kk { p with flag:=c.b }).map prtC):=by
   rw [List.map_set]; rfl
  rw [hset] at hst;have hpo:=ok p (yo hp);have hok2:∀ q∈ps.set kk { p with flag:=c.b },q.ok:=fun q hq=>by
   rcases List.mem_or_eq_of_mem_set hq with hq | rfl
   ·exact ok q hq
   ·exact ⟨hpo.1,hpo.2.1,hc.2.2.2⟩
  generalize hR0:q0n xs=R0 at *
  generalize hR2:q0g (ps.map prtC)=R2 at *
  generalize hR3:q0g ((ps.set kk { p with flag:=c.b }).map prtC)=R3 at *
  have hN7:¬ (13=47/\2=N):=by simp
  simp [q18,-y0,-y5,-y4,y3,-q17,-q0i,q0K,q0U,q0p,q0q,e7,m7,e8,e9,e67,m13,g,hlp,hlpi,hkl,hkli,hmN,hst];refine hk _ (xs.set z (x,⟨.ref 47 N 3 0 ps.length ps.length,.no⟩)) ⟨?_,?_,?_,?_,?_,?_,nds.upd hz ?_ hnum ?_ ?_ ?_ (.inl rfl),?_⟩
  ·simp [e1]
  ·simp [e4]
  ·simp [e5]
  ·simp [e6]
  ·simp [m4]
  ·simp [m5]
  ·rw [set_self hz];simp [m13,hR0]
  ·refine .inr ⟨47,N,ps.length,ps.set kk { p with flag:=c.b },by simp,.inl rfl,by dsimp only; omega,by rw [hR3]; simp,hok2,by simpa using sz⟩
  ·exact Pres.setX (Pres.refl _ _ _) rfl
  ·dsimp only; omega
  ·dsimp only; omega
theorem sw7 (hc:c.ok) (hm:c.kind % 8=7) (h:ChT cn cs L i xs c z x pc ps s) (k:Ex->MSt->Option RV) (hk:∀ s2 xs2,ChI cn cs L i xs2 s2->k .nrm s2=some r):q18.run (evC allT q01) (evK allT q01) s k=some r:=by
 obtain ⟨ch,⟨n7,e7,m7⟩,e8,⟨kk,e9,hkk⟩,e67,hz,pcs,ok,sz⟩:=h;have ch':=ch;obtain ⟨e1,e4,e5,e6,m4,m5,nds,nx⟩:=ch;rw [hm] at e67;have hnum:=nds.num _ (yo hz);have m13:=nds.row;have g:=q2D hz 4 (by omega);simp only [q6o] at g;simp at g;simp only [q6z] at m7;rcases pcs with ⟨rfl,rfl⟩ | ⟨hne,N,rfl,hN,hmN⟩
 ·generalize hR0:q0n xs=R0 at *
  simp [q18,-y0,-y5,-y4,y3,-q17,-q0i,q0K,q0U,q0p,q0q,e7,m7,e8,e67,m13,g];refine hk _ xs (ch'.nothing ?_ ?_ ?_ ?_ ?_)
  ·simp
  ·simp
  ·simp
  ·simp
  ·omega
 ·have hkl:=hkk hne;have hlp:0<ps.length:=List.length_pos_iff.2 hne;have hlpi:(0:Int)<ps.length:=by omega
  have hkli:(kk:Int)<ps.length:=by omega
  obtain ⟨p,hp⟩:∃ p,ps[kk]?=some p:=⟨_,y7 hkl⟩;have hst:=row_set1 (q57 ps) (k:=kk) (c:=prtC p) (by rw [yf,hp]; rfl) (j:=1) (by simp [prtC]) (x:=.int .u8 (IntKind.u8.wrap (p.ty + c.b))) rfl 1;have hgt:=row_get1 (q57 ps) (k:=kk) (c:=prtC p) (by rw [yf,hp]; rfl) (j:=1) (v:=.int .u8 p.ty) (by simp [prtC]) 1;rw [q0K] at hgt;have hset:q0g ((ps.map prtC).set kk ((prtC p).set 1 (.int .u8 (IntKind.u8.wrap (p.ty + c.b)))))=q0g ((ps.set kk { p with ty:=IntKind.u8.wrap (p.ty + c.b) }).map prtC):=by
   rw [List.map_set]; rfl
  rw [hset] at hst;have hpo:=ok p (yo hp);have hok2:∀ q∈ps.set kk { p with ty:=IntKind.u8.wrap (p.ty + c.b) },q.ok:=fun q hq=>by
   rcases List.mem_or_eq_of_mem_set hq with hq | rfl
   ·exact ok q hq
   ·exact ⟨hpo.1,u8w _,hpo.2.2⟩
  generalize hR0:q0n xs=R0 at *
  generalize hR2:q0g (ps.map prtC)=R2 at *
  generalize hR3:q0g ((ps.set kk { p with ty:=IntKind.u8.wrap (p.ty + c.b) }).map prtC)=R3 at *
  have hN7:¬ (13=47/\2=N):=by simp
  simp [q18,-y0,-y5,-y4,y3,-q17,-q0i,q0K,q0U,q0p,q0q,e7,m7,e8,e9,e67,m13,g,hlp,hlpi,hkl,hkli,hmN,hst,hgt];refine hk _ (xs.set z (x,⟨.ref 47 N 3 0 ps.length ps.length,.no⟩)) ⟨?_,?_,?_,?_,?_,?_,nds.upd hz ?_ hnum ?_ ?_ ?_ (.inl rfl),?_⟩
  ·simp [e1]
  ·simp [e4]
  ·simp [e5]
  ·simp [e6]
  ·simp [m4]
  ·simp [m5]
  ·rw [set_self hz];simp [m13,hR0]
  ·refine .inr ⟨47,N,ps.length,ps.set kk { p with ty:=IntKind.u8.wrap (p.ty + c.b) },by simp,.inl rfl,by dsimp only; omega,by rw [hR3]; simp,hok2,by simpa using sz⟩
  ·exact Pres.setX (Pres.refl _ _ _) rfl
  ·dsimp only; omega
  ·dsimp only; omega
theorem sw4 (hc:c.ok) (hm:c.kind % 8=4) (h:ChT cn cs L i xs c z x pc ps s) (k:Ex->MSt->Option RV) (hk:∀ s2 xs2,ChI cn cs L i xs2 s2->k .nrm s2=some r):q18.run (evC allT q01) (evK allT q01) s k=some r:=by
 obtain ⟨ch,⟨n7,e7,m7⟩,e8,⟨kk,e9,hkk⟩,e67,hz,pcs,ok,sz⟩:=h;have ch':=ch;obtain ⟨e1,e4,e5,e6,m4,m5,nds,nx⟩:=ch;rw [hm] at e67;have hnum:=nds.num _ (yo hz);have m13:=nds.row;have g:=q2D hz 4 (by omega);simp only [q6o] at g;simp at g;simp only [q6z] at m7;obtain ⟨hc1,hc2,hc3,hc4⟩:=hc;have h12:u8 (IntKind.u8.wrap (c.a.tdiv 12)):=u8w _;have hq:(⟨c.a,c.b,IntKind.u8.wrap (c.a.tdiv 12)⟩:Prt).ok:=⟨hc3,hc4,h12⟩;generalize hfl:IntKind.u8.wrap (c.a.tdiv 12)=fl at *
 have hst:∀ n l y,(xs.set z (x,y))[z]?=some (x,y)->q0i false 1 (z * 5 + 4) (q0n (xs.set z (x,y))) (.ref 168 n 3 0 l l) .no=some (q0n (xs.set z (x,⟨.ref 168 n 3 0 l l,.no⟩))):=fun n l y hy=>by
  rw [q2p hy 4 (by omega) _ .no rfl rfl (q':=(x,⟨.ref 168 n 3 0 l l,.no⟩)),List.set_set]
 have hzl:=(ye.1 hz).1;have room3:q10 3 1=true:=by decide
 rcases pcs with ⟨rfl,rfl⟩ | ⟨hne,N,rfl,hN,hmN⟩
 ·have hst1:∀ n l,q0i false 1 (z * 5 + 4) (q0n xs) (.ref 168 n 3 0 l l) .no=some (q0n (xs.set z (x,⟨.ref 168 n 3 0 l l,.no⟩))):=fun n l=>q2p hz 4 (by omega) _ .no rfl rfl
  obtain ⟨R1,hR1⟩:∃ R1:Nat->Nat->List Slot,∀ n l,q0n (xs.set z (x,⟨.ref 168 n 3 0 l l,.no⟩))=R1 n l:=⟨_,fun n l=>rfl⟩;simp only [hR1] at hst1;generalize hR0:q0n xs=R0 at *
  simp [q18,-y0,-y5,-y4,y3,-q17,-q0i,q0K,q0U,q0p,q0q,e7,m7,e8,e67,m13,g,room3,hst1,hfl];refine hk _ (xs.set z (x,⟨.ref 168 (s.next + 6) 3 0 1 1,.no⟩)) ⟨?_,?_,?_,?_,?_,?_,nds.upd hz ?_ hnum ?_ ?_ ?_ (.inr fun M hM=>?_),?_⟩
  ·simp [e1]
  ·simp [e4]
  ·simp [e5]
  ·simp [e6]
  ·simp [m4]
  ·simp [m5]
  ·simp [hR1]
  ·refine .inr ⟨168,s.next + 6,1,[⟨c.a,c.b,fl⟩],rfl,.inr (.inl rfl),by dsimp only; omega,by simp [prtC],by simpa using hq,by simp⟩
  ·exact Pres.set (Pres.set (Pres.refl _ _ _) (.inl (by omega))) (.inr (by decide))
  ·dsimp only; omega
  ·simp [nmM] at hM; omega
  ·dsimp only; omega
 ·by_cases h8:ps.length<8
  ·have h8i:(ps.length:Int)<8:=by omega
   have hkl:=ndsRow_kill nds hz (t:=47) (N:=N) rfl;have hkl':(q0n xs).map (Slot.kill 47 N)=q0n (xs.set z (x,⟨.undef,.no⟩)):=by
    rw [hkl];simp [Slot.kill_mk,AV.kill,AV.kill0]
   have hst1:∀ n,q0i false 1 (z * 5 + 4) ((q0n xs).map (Slot.kill 47 N)) (.ref 168 n 3 0 (ps.length + 1) (ps.length + 1)) .no=some (q0n (xs.set z (x,⟨.ref 168 n 3 0 (ps.length + 1) (ps.length + 1),.no⟩))):=fun n=>by
    rw [hkl'];exact hst n (ps.length + 1) _ (List.getElem?_set_self hzl)
   obtain ⟨R1,hR1⟩:∃ R1:Nat->List Slot,∀ n,q0n (xs.set z (x,⟨.ref 168 n 3 0 (ps.length + 1) (ps.length + 1),.no⟩))=R1 n:=⟨_,fun n=>rfl⟩;simp only [hR1] at hst1;have q3:=q57 ps;have hre:q3u (q0g (ps.map prtC)) 3 0 ps.length=some (ps.map prtC):=by
    have:=q5W (q57 ps) (q88 ps);simpa using this
   have hroom:q10 3 (ps.length + 1)=true:=by rw [q0l]; omega
   have hr2:q0g (ps.map prtC++[[AV.int .u8 c.a,AV.int .u8 c.b,AV.int .u8 fl]])=q0g ((ps++[(⟨c.a,c.b,fl⟩:Prt)]).map prtC):=by simp [prtC]
   generalize hR0:q0n xs=R0 at *
   generalize hR2:q0g (ps.map prtC)=R2 at *
   have hlp:0<ps.length:=List.length_pos_iff.2 hne;simp [q18,-y0,-y5,-y4,y3,-q17,-q0i,q0K,q0U,q0p,q0q,e7,m7,e8,e67,m13,g,hst1,hfl,h8,h8i,hmN,hre,hroom,q3,Cl.okMem];refine hk _ (xs.set z (x,⟨.ref 168 (s.next + 6) 3 0 (ps.length + 1) (ps.length + 1),.no⟩)) ⟨?_,?_,?_,?_,?_,?_,nds.upd hz ?_ hnum ?_ ?_ ?_ (.inr fun M hM=>?_),?_⟩
   ·simp [e1]
   ·simp [e4]
   ·simp [e5]
   ·simp [e6]
   ·simp [m4]
   ·simp [m5]
   ·simp [hR1]
   ·refine .inr ⟨168,s.next + 6,ps.length + 1,ps++[⟨c.a,c.b,fl⟩],by simp,.inr (.inl rfl),by dsimp only; omega,by rw [<- hr2]; simp,?_,by simp; omega⟩;intro p hp;rcases yA.1 hp with hp | hp
    ·exact ok p hp
    ·simp at hp;rw [hp];exact hq
   ·exact Pres.set (Pres.set (Pres.kill (Pres.refl _ _ _) rfl) (.inl (by omega))) (.inr (by decide))
   ·dsimp only; omega
   ·simp [nmM] at hM; omega
   ·dsimp only; omega
  ·have h8i:¬ (ps.length:Int)<8:=by omega
   generalize hR0:q0n xs=R0 at *
   simp [q18,-y0,-y5,-y4,y3,-q17,-q0i,q0K,q0U,q0p,q0q,e7,m7,e8,e67,m13,g,h8,h8i];refine hk _ xs (ch'.nothing ?_ ?_ ?_ ?_ ?_)
   ·simp
   ·simp
   ·simp
   ·simp
   ·omega
end
end
section
theorem rowEls_sub {sz:Nat} {L:List (List AV)} (h:q1f sz L=true) (hf:q2t L=true) {a b:Nat} (hab:a + b<=L.length):q3u (q0g L) sz (a * sz) b=some ((L.drop a).take b):=by
 have h1:=q5W h hf;have hl:=q5X h;unfold q3u at h1 ⊢;split at h1
 case isFalse=>cases h1
 rename_i hc;injection h1 with h1;have hle:a * sz + b * sz<=(q0g L).length:=by
  rw [hl,<- Nat.add_mul];exact yW _ hab
 rw [if_pos ⟨hle,hc.2⟩];congr 1;refine List.ext_getElem? fun i=>?_
 by_cases hi:i<b
 ·have e1:=congrArg (·[a + i]?) h1;simp only [yf] at e1;rw [List.getElem?_range (by omega)] at e1;rw [yf,List.getElem?_range hi,yT,if_pos hi,yU,<- e1];simp only [yt,yy,Nat.add_mul]
 ·rw [List.getElem?_eq_none (by simp; omega),List.getElem?_eq_none (by simp; omega)]
section
variable {r:RV} {cn:Bool} {cs:List Chg} {L i:Nat} {xs:List Nd} {c:Chg} {z:Nat} {x:Nde} {pc:Slot} {ps:List Prt} {s:MSt}
theorem sw5 (hc:c.ok) (hm:c.kind % 8=5) (h:ChT cn cs L i xs c z x pc ps s) (k:Ex->MSt->Option RV) (hk:∀ s2 xs2,ChI cn cs L i xs2 s2->k .nrm s2=some r):q18.run (evC allT q01) (evK allT q01) s k=some r:=by
 obtain ⟨ch,⟨n7,e7,m7⟩,e8,⟨kk,e9,hkk⟩,e67,hz,pcs,ok,sz⟩:=h;have ch':=ch;obtain ⟨e1,e4,e5,e6,m4,m5,nds,nx⟩:=ch;rw [hm] at e67;have hnum:=nds.num _ (yo hz);have m13:=nds.row;have g:=q2D hz 4 (by omega);simp only [q6o] at g;simp at g;simp only [q6z] at m7;have hzl:=(ye.1 hz).1;rcases pcs with ⟨rfl,rfl⟩ | ⟨hne,N,rfl,hN,hmN⟩
 ·generalize hR0:q0n xs=R0 at *
  simp [q18,-y0,-y5,-y4,y3,-q17,-q0i,q0K,q0U,q0p,q0q,e7,m7,e8,e67,m13,g];refine hk _ xs (ch'.nothing ?_ ?_ ?_ ?_ ?_)
  ·simp
  ·simp
  ·simp
  ·simp
  ·omega
 ·have hkl:=hkk hne;have hlp:0<ps.length:=List.length_pos_iff.2 hne;have hlpi:(0:Int)<ps.length:=by omega
  have hwk:=q11 (i:=kk) (by omega);have hkle:kk<=ps.length:=by omega
  have hk0:(0:Int)<=(kk:Int) + 1:=by omega
  have hkill:=ndsRow_kill nds hz (t:=47) (N:=N) rfl;have hkill':(q0n xs).map (Slot.kill 47 N)=q0n (xs.set z (x,⟨.undef,.no⟩)):=by
   rw [hkill];simp [Slot.kill_mk,AV.kill,AV.kill0]
  have hst1:∀ n l,q0i false 1 (z * 5 + 4) ((q0n xs).map (Slot.kill 47 N)) (.ref 193 n 3 0 l l) .no=some (q0n (xs.set z (x,⟨.ref 193 n 3 0 l l,.no⟩))):=fun n l=>by
   have hs:=q2p (show (xs.set z (x,(⟨.undef,.no⟩:Slot)))[z]?=some (x,⟨.undef,.no⟩) from List.getElem?_set_self hzl) 4 (by omega) (.ref 193 n 3 0 l l) .no rfl (q':=(x,⟨.ref 193 n 3 0 l l,.no⟩)) rfl;rw [hkill',hs,List.set_set]
  obtain ⟨R1,hR1⟩:∃ R1:Nat->Nat->List Slot,∀ n l,q0n (xs.set z (x,⟨.ref 193 n 3 0 l l,.no⟩))=R1 n l:=⟨_,fun n l=>rfl⟩;simp only [hR1] at hst1;have q1:=q57 (ps.take kk);have q2:=q57 (ps.drop (kk + 1));have hre1:q3u (q0g (ps.map prtC)) 3 0 kk=some ((ps.take kk).map prtC):=by
   have:=rowEls_sub (q57 ps) (q88 ps) (a:=0) (b:=kk) (by simp; omega);simpa [List.map_take] using this
  have hre2:q3u (q0g (ps.map prtC)) 3 ((kk + 1) * 3) (ps.length - (kk + 1))=some ((ps.drop (kk + 1)).map prtC):=by
   have:=rowEls_sub (q57 ps) (q88 ps) (a:=kk + 1) (b:=ps.length - (kk + 1)) (by simp; omega);rw [this,List.map_drop,yO (by simp)]
  have hroom:q10 3 (kk + (ps.length - (kk + 1)))=true:=by rw [q0l]; omega
  have hroom0:q10 3 kk=true:=by rw [q0l]; omega
  have hok2:∀ q∈ps.take kk++ps.drop (kk + 1),q.ok:=fun q hq=>by
   rcases yA.1 hq with hq | hq
   ·exact ok q (List.mem_of_mem_take hq)
   ·exact ok q (List.mem_of_mem_drop hq)
  have hrr:q0g ((ps.take kk).map prtC++(ps.drop (kk + 1)).map prtC)=q0g ((ps.take kk++ps.drop (kk + 1)).map prtC):=by rw [List.map_append]
  have hl1:(ps.take kk).length=kk:=by rw [yD]; omega
  have hl2:(ps.drop (kk + 1)).length=ps.length - (kk + 1):=List.length_drop;have hlen:(ps.take kk++ps.drop (kk + 1)).length=kk + (ps.length - (kk + 1)):=by rw [yu,hl1,hl2]
  generalize hT:ps.take kk=T at *
  generalize hD:ps.drop (kk + 1)=D at *
  generalize hR0:q0n xs=R0 at *
  generalize hR2:q0g (ps.map prtC)=R2 at *
  by_cases hlast:ps.length=kk + 1
  ·have hD0:D=[]:=yP (by omega);subst hD0;simp only [List.append_nil] at hok2;simp [q18,-y0,-y5,-y4,y3,-q17,-q0i,q0K,q0U,q0p,q0q,e7,m7,e8,e9,e67,m13,g,hst1,hlp,hlpi,hkle,hk0,hwk,hmN,hlast,hre1,hroom0,q1,Cl.okMem,endC];refine hk _ (xs.set z (x,⟨.ref 193 (s.next + 7) 3 0 (kk) (kk),.no⟩)) ⟨?_,?_,?_,?_,?_,?_,nds.upd hz ?_ hnum ?_ ?_ ?_ (.inr fun M hM=>?_),?_⟩
   ·simp [e1]
   ·simp [e4]
   ·simp [e5]
   ·simp [e6]
   ·simp [m4]
   ·simp [m5]
   ·simp [hR1]
   ·refine .inr ⟨193,s.next + 7,kk,T,by rw [hl1],.inr (.inr rfl),by dsimp only; omega,by simp,hok2,by rw [hl1]; omega⟩
   ·exact Pres.set (Pres.set (Pres.kill (Pres.refl _ _ _) rfl) (.inl (by omega))) (.inr (by decide))
   ·dsimp only; omega
   ·simp [nmM] at hM; omega
   ·dsimp only; omega
  ·have h1:kk + 1<=ps.length:=by omega
   simp [q18,-y0,-y5,-y4,y3,-q17,-q0i,q0K,q0U,q0p,q0q,e7,m7,e8,e9,e67,m13,g,hst1,hlp,hlpi,hkle,hk0,hwk,hmN,hlast,h1,hre1,hre2,hroom,q1,q2,hl2,Cl.okMem,endC];refine hk _ (xs.set z (x,⟨.ref 193 (s.next + 7) 3 0 (kk + (ps.length - (kk + 1))) (kk + (ps.length - (kk + 1))),.no⟩)) ⟨?_,?_,?_,?_,?_,?_,nds.upd hz ?_ hnum ?_ ?_ ?_ (.inr fun M hM=>?_),?_⟩
   ·simp [e1]
   ·simp [e4]
   ·simp [e5]
   ·simp [e6]
   ·simp [m4]
   ·simp [m5]
   ·simp [hR1]
   ·refine .inr ⟨193,s.next + 7,kk + (ps.length - (kk + 1)),T++D,by rw [hlen],.inr (.inr rfl),by dsimp only; omega,by rw [<- hrr]; simp,hok2,by rw [hlen]; omega⟩
   ·exact Pres.set (Pres.set (Pres.kill (Pres.refl _ _ _) rfl) (.inl (by omega))) (.inr (by decide))
   ·dsimp only; omega
   ·simp [nmM] at hM; omega
   ·dsimp only; omega
theorem sw_ev (hc:c.ok) (h:ChT cn cs L i xs c z x pc ps s) (k:Ex->MSt->Option RV) (hk:∀ s2 xs2,ChI cn cs L i xs2 s2->k .nrm s2=some r):q18.run (evC allT q01) (evK allT q01) s k=some r:=by
 have h0:=yI c.kind (b:=8) (by omega);have h1:=yN c.kind (b:=8) (by omega);by_cases m0:c.kind % 8=0
 ·exact sw0 hc m0 h k hk
 by_cases m1:c.kind % 8=1
 ·exact sw1 hc m1 h k hk
 by_cases m2:c.kind % 8=2
 ·exact sw2 hc m2 h k hk
 by_cases m3:c.kind % 8=3
 ·exact sw3 hc m3 h k hk
 by_cases m4:c.kind % 8=4
 ·exact sw4 hc m4 h k hk
 by_cases m5:c.kind % 8=5
 ·exact sw5 hc m5 h k hk
 by_cases m6:c.kind % 8=6
 ·exact sw6 hc m6 h k hk
 ·exact sw7 hc (by omega) h k hk
end
end
theorem rowRaw_v {R R':List Slot} (h:R.map (·.v)=R'.map (·.v)) (sz off len:Nat):q5g R sz off len=q5g R' sz off len:=by
 have hl:R.length=R'.length:=by simpa using congrArg List.length h
 unfold q5g;rw [hl];split
 ·congr 1;refine yq fun i _=>?_
  rw [List.map_take,List.map_take,List.map_drop,List.map_drop,h]
 ·rfl
theorem frz_rowV {s:MSt} {t n sz c:Nat} {L:List (List AV)} {R:List Slot} (h:q1f sz L=true) (hm:s.mem t n=some R) (hv:R.map (·.v)=(q0g L).map (·.v)) (hf:(L.map fun c=>c.map (AV.frz1 s)).flatten.all AV.free0=true):AV.frz0 s (.ref t n sz 0 L.length c)=.sl false (L.map fun c=>c.map (AV.frz1 s)):=by
 have hr:q5g R sz 0 L.length=some L:=by
  rw [rowRaw_v hv];exact q3k fun c hc=>by simpa using y6.1 h c hc
 have hal:R.all (fun x=>x.v.free0)=(q0g L).all (fun x=>x.v.free0):=by
  have e:∀ q:List Slot,q.all (fun x=>x.v.free0)=(q.map (·.v)).all AV.free0:=fun q=>by rw [List.all_map]; rfl
  rw [e,e,hv]
 simp only [AV.frz0,hm,y0,rowEls_eq,hal];by_cases hall:(q0g L).all (fun x=>x.v.free0)=true
 ·rw [if_pos hall,hr];have:(L.map fun c=>c.map (AV.frz1 s))=L.map id:=yq fun c hc=>by
   have:c.map (AV.frz1 s)=c.map id:=yq fun v hv=>frz1_free (by
    have:=y6.1 hall ⟨v,.no⟩ (yz.2 ⟨v,List.mem_flatten.2 ⟨c,hc,hv⟩,rfl⟩);exact this)
   rwa [List.map_id] at this
  rw [this,List.map_id]
 ·rw [if_neg hall];simp only [rowDeep,hr,y0];rw [if_pos hf]
def ndC (q:Nd):List AV:=(q6o q).map (·.v)
theorem ndsRow_v:∀ xs:List Nd,(q0n xs).map (·.v)=(q0g (xs.map ndC)).map (·.v)
 | []=>rfl
 | q :: r=>by
  have:=ndsRow_v r;unfold q0n q0g at this ⊢;simp only [List.flatMap_cons,List.map_append,yk,yG];rw [this];simp [ndC]
theorem nd_frz {L:Nat} {s:MSt} {xs:List Nd} (h:NdsI L s.mem s.next xs):∀ ys:List Nd,(∀ q∈ys,q∈xs)->∃ l':List Nde,(∀ x∈l',x.ok)/\((ys.map ndC).map fun c=>c.map (AV.frz1 s))=l'.map ndeC
 | [],_=>⟨[],by simp,rfl⟩
 | q :: r,hq=>by
  obtain ⟨l',h1,h2⟩:=nd_frz h r fun b hb=>hq b (by simp [hb])
  have hm:=hq q (by simp);have hn:=h.num q hm;have hx:∃ x':Nde,x'.ok/\(ndC q).map (AV.frz1 s)=ndeC x':=by
   rcases h.pc q hm with ⟨nl,ps,a,e,_,h3,h4⟩ | ⟨t,N,c,ps,e,_,_,h3,h4,h5⟩
   ·refine ⟨⟨q.1.k,q.1.a,q.1.b,q.1.c,nl,ps⟩,⟨hn.1,hn.2.1,hn.2.2.1,hn.2.2.2,by dsimp only; omega,h3⟩,?_⟩;simp [ndC,q6o,e,AV.frz1,ndeC]
   ·refine ⟨⟨q.1.k,q.1.a,q.1.b,q.1.c,false,ps⟩,⟨hn.1,hn.2.1,hn.2.2.1,hn.2.2.2,by dsimp only; omega,h4⟩,?_⟩;have:=q5W (q57 ps) (q88 ps);simp only [yx] at this;simp [ndC,q6o,e,AV.frz1,ndeC,h3,this]
  obtain ⟨x',h3,h4⟩:=hx;refine ⟨x' :: l',?_,?_⟩
  ·intro y hy;rcases yj.1 hy with rfl | hy
   ·exact h3
   ·exact h1 y hy
  ·simp only [yk,h4,h2]
def Nde.sized (x:Nde):Prop:=x.parts.length * 3<=140737488355328
def ChE (e:Ex) (s:MSt):Prop:=e=.ret/\(s.env 4).v=.ptr 4 1 0/\(s.mem 4 1=some [⟨.sl false [],.no⟩]\/∃ L xs,s.mem 4 1=some [⟨.ref 13 2 5 0 L L,.no⟩]/\NdsI L s.mem s.next xs)
theorem changed_run {dn cn:Bool} {l:List Nde} (hx:∀ x∈l,x.ok/\x.sized) (hl:l.length * 32<=140737488355328) {cs:List Chg} (hc:∀ c∈cs,c.ok) (hcl:cs.length<=9223372036854775807) (k:Ex->MSt->Option RV) (r:RV) (hk:∀ e s',ChE e s'->k e s'=some r):q27.code.run (evC allT q01) (evK allT q01) (MSt.init [.agg (dftC dn l),.sl cn (cs.map chgC)] none) k=some r:=by
 have hroom0:q10 32 0=true:=by decide
 by_cases hne:l=[]
 ·subst hne;simp [q27,dftC,-y0,-y5,-y4,y3,hroom0];refine q0f 0 (fun _ s=>(s.env 1).v=.sl cn (cs.map chgC)/\(s.env 4).v=.ptr 4 1 0/\(s.env 5).v=.ptr 5 2 0/\(s.env 6).v=.int .i64 0/\s.mem 4 1=some [⟨.sl true [],.ex⟩]/\s.mem 5 2=some [⟨.sl false [],.no⟩])
   (fun e s=>e=.exit 0/\(s.env 4).v=.ptr 4 1 0/\(s.env 5).v=.ptr 5 2 0/\s.mem 4 1=some [⟨.sl true [],.ex⟩]/\s.mem 5 2=some [⟨.sl false [],.no⟩]) (fun i hi s k h ih hk=>?_) _ _ ?_ (fun e s h=>?_)
  ·obtain ⟨e1,e4,e5,e6,m4,m5⟩:=h;refine q04 ?_;by_cases h0:cs=[]
   ·subst h0;simp at e1;simp [q19,-y0,-y5,-y4,y3,e1,e5,e6,m5];exact hk _ _ ⟨rfl,by simp [e4],by simp [e5],m4,m5⟩
   ·have h1:(0:Int)<cs.length:=by have:=List.length_pos_iff.2 h0; omega
    have h2:=List.length_pos_iff.2 h0;simp [q19,-y0,-y5,-y4,y3,e1,e5,e6,m5,h1,h2];exact hk _ _ ⟨rfl,by simp [e4],by simp [e5],m4,m5⟩
  ·refine ⟨?_,?_,?_,?_,?_,?_⟩ <;> simp
  ·obtain ⟨rfl,e4,e5,m4,m5⟩:=h;simp [-y0,-y5,-y4,y3,e4,e5,m4,m5];exact hk _ _ ⟨rfl,by simp [e4],.inl (by simp)⟩
 ·have hlp:=List.length_pos_iff.2 hne;have hlpi:(0:Int)<l.length:=by omega
  have hie:l.isEmpty=false:=by simpa using hne
  have hroom:q10 32 l.length=true:=by rw [q0l]; omega
  have hels:q1f 5 (l.map ndeC)=true:=q1B _ _ _ fun _=>rfl
  simp [q27,dftC,-y0,-y5,-y4,y3,hroom,hels,hie,hne];refine q0f cs.length (fun i s=>∃ xs,ChI cn cs l.length i xs s)
   (fun e s=>e=.exit 0/\∃ xs,ChI cn cs l.length cs.length xs s) (fun i hi s k h ih hk=>?_) _ _ ?_ (fun e s h=>?_)
  ·obtain ⟨xs,h⟩:=h;by_cases hlt:i<cs.length
   ·refine chg_head hlt hcl hc hlp (by omega) h k (fun s' xs' c z x pc ps kk hcm hT hkk=>sw_ev (hc c hcm) hT kk hkk) (fun s' xs' h'=>ih hlt s' ⟨xs',h'⟩)
   ·have hil:i=cs.length:=by omega
    have hlt':¬ (i:Int)<cs.length:=by omega
    refine q04 ?_;have e1:=h.e1;have e6:=h.e6;simp [q19,-y0,-y5,-y4,y3,e1,e6,hlt'];rw [<- hil];refine hk _ _ ⟨rfl,xs,?_⟩;rw [<- hil];exact h.nothing (by simp) (by simp) (by simp) (by simp) (by omega)
  ·refine ⟨l.map fun x=>(x,⟨.sl x.pn (x.parts.map prtC),.no⟩),⟨?_,?_,?_,?_,?_,?_,⟨by simp,?_,?_,?_,?_⟩,?_⟩⟩
   ·simp
   ·simp
   ·simp
   ·simp
   ·simp
   ·simp
   ·have:q0g (l.map ndeC)=q0n (l.map fun x=>(x,⟨.sl x.pn (x.parts.map prtC),.no⟩)):=by
     unfold q0g q0n;rw [List.map_flatten,y4,List.flatMap_map];rfl
    simp [this]
   ·intro q hq;obtain ⟨x,hxm,rfl⟩:=yz.1 hq;have:=(hx x hxm).1;exact ⟨this.1,this.2.1,this.2.2.1,this.2.2.2.1⟩
   ·intro q hq;obtain ⟨x,hxm,rfl⟩:=yz.1 hq;exact .inl ⟨x.pn,x.parts,.no,rfl,.inl rfl,(hx x hxm).1.2.2.2.2.2,(hx x hxm).2⟩
   ·intro j k a b N _ ha _ hNa _;rw [yf] at ha;obtain ⟨x,_,rfl⟩:=yh.1 ha;simp [nmM] at hNa
   ·simp
  ·obtain ⟨rfl,xs,e1,e4,e5,e6,m4,m5,nds,nx⟩:=h;simp [-y0,-y5,-y4,y3,e4,e5,m4,m5];refine hk _ _ ⟨rfl,by simp [e4],.inr ⟨l.length,xs,by simp,?_⟩⟩;exact ⟨nds.len,by simp [nds.row],nds.num,fun q hq=>(nds.pc q hq).pres (ex:=none) (Pres.set (Pres.refl _ _ _) (.inr (by decide))) (by dsimp only; omega) (by simp),nds.dist⟩
theorem changed_ev {dn cn:Bool} {l:List Nde} (hx:∀ x∈l,x.ok/\x.sized) (hl:l.length * 32<=140737488355328) {cs:List Chg} (hc:∀ c∈cs,c.ok) (hcl:cs.length<=9223372036854775807):∃ r:RV,(∃ l':List Nde,(∀ x∈l',x.ok)/\r=(.agg (dftC false l'),none))/\evC allT q01 69 [.agg (dftC dn l),.sl cn (cs.map chgC)] none=some r:=by
 refine evC_reach allT_det q27 rfl rfl (F:=ChE) (changed_run hx hl hc hcl) fun e s' h=>?_
 have hres:q27.res=[.cell 4 true 1]:=rfl;obtain ⟨rfl,e4,m4 | ⟨L,xs,m4,nds⟩⟩:=h
 ·exact ⟨_,by simp [fin,hres,resC,e4,m4,q17,AV.frz,AV.frz0,finV,AV.free,AV.free0,pack]; rfl,[],by simp,rfl⟩
 ·obtain ⟨l',h1,h2⟩:=nd_frz nds xs fun q hq=>hq
  have hels:q1f 5 (xs.map ndC)=true:=q1B _ _ _ fun _=>rfl
  have g2:=frz_rowV (c:=L) hels nds.row (ndsRow_v xs) (by rw [h2]; simp [ndeC,AV.free0]);rw [yx,nds.len,h2] at g2;have f1:AV.frz s' (.agg [.ref 13 2 5 0 L L])=.agg [.sl false (l'.map ndeC)]:=by simp only [AV.frz,yk,yn,g2]
  exact ⟨_,by simp [fin,hres,resC,e4,m4,q17,f1,finV,AV.free,AV.free0,pack,-AV.frz,-AV.frz0]; rfl,l',h1,rfl⟩
def zig (n:Int):Int:=if 0<=n then 2 * n else -2 * n - 1
def i64R (n:Int):Prop:=-9223372036854775808<=n/\n<=9223372036854775807
theorem q8n (n:Int) (h:0<=n/\n<18446744073709551616):IntKind.u64.wrap n=n:=by
 simp only [IntKind.wrap,IntKind.bits,IntKind.signed];simp;omega
theorem xor_u64 (a b c:Int) (h:((BitVec.ofInt 64 a ^^^ BitVec.ofInt 64 b).toNat:Int)=c) (hc:0<=c/\c<18446744073709551616):binC .xor false (.int .u64 a) (.int .u64 b)=some (.int .u64 c):=by
 have:binC .xor false (.int .u64 a) (.int .u64 b)=some (.int .u64 (IntKind.u64.wrap ((BitVec.ofInt 64 a ^^^ BitVec.ofInt 64 b).toNat:Int))):=rfl;rw [this,h,q8n _ hc]
theorem shl_u64 (a c:Int) (h:IntKind.u64.wrap (a * 2)=c):binC .shl false (.int .u64 a) (.int .u64 1)=some (.int .u64 c):=by
 have:binC .shl false (.int .u64 a) (.int .u64 1)=some (.int .u64 (IntKind.u64.wrap (a * 2))):=rfl;rw [this,h]
theorem shr_63 (a c:Int) (h:a.fdiv 9223372036854775808=c):binC .shr false (.int .i64 a) (.int .u64 63)=some (.int .i64 c):=by
 have:binC .shr false (.int .i64 a) (.int .u64 63)=some (.int .i64 (a.fdiv 9223372036854775808)):=rfl;rw [this,h]
theorem zig_ev (n:Int) (h:i64R n):evA 260 [.int .i64 n] (.int .u64 (zig n)):=by
 refine q00 (c:=q3g) rfl rfl ?_;obtain ⟨h1,h2⟩:=h;unfold zig;by_cases h0:0<=n
 ·have w1:IntKind.u64.wrap n=n:=q8n _ (by omega);have w2:=shl_u64 n (2 * n) (by rw [q8n _ (by omega)]; omega);have w3:=shr_63 n 0 (by rw [Int.fdiv_eq_ediv_of_nonneg _ (by omega)]; omega);have w4:IntKind.u64.wrap 0=0:=q8n _ (by omega);have w5:=xor_u64 (2 * n) 0 (2 * n) (by rw [show BitVec.ofInt 64 0=0#64 from rfl,BitVec.xor_zero,BitVec.toNat_ofInt]; omega) (by omega);simp [q3g,-y0,-y5,-y4,y3,-binC,w1,w2,w3,w4,w5,h0]
 ·have w1:IntKind.u64.wrap n=n + 18446744073709551616:=by
   simp only [IntKind.wrap,IntKind.bits,IntKind.signed];simp;omega
  have w2:=shl_u64 (n + 18446744073709551616) (2 * n + 18446744073709551616) (by
   simp only [IntKind.wrap,IntKind.bits,IntKind.signed];simp;omega)
  have w3:=shr_63 n (-1) (by rw [Int.fdiv_eq_ediv_of_nonneg _ (by omega)]; omega);have w4:IntKind.u64.wrap (-1)=18446744073709551615:=by decide +kernel
  have w5:=xor_u64 (2 * n + 18446744073709551616) 18446744073709551615 (-2 * n - 1) (by
   rw [show BitVec.ofInt 64 18446744073709551615=BitVec.allOnes 64 from by decide +kernel,BitVec.xor_allOnes,BitVec.toNat_not,BitVec.toNat_ofInt];omega) (by omega)
  simp [q3g,-y0,-y5,-y4,y3,-binC,w1,w2,w3,w4,w5,h0]
theorem rzig_ev (n:Int) (h:i64R n):evA 179 [.int .i64 n] (.int .u64 (zig n)):=by
 refine q00 (c:=q3A) rfl rfl ?_;obtain ⟨h1,h2⟩:=h;unfold zig;by_cases h0:0<=n
 ·have w1:IntKind.u64.wrap n=n:=q8n _ (by omega);have w2:IntKind.u64.wrap (2 * n)=2 * n:=q8n _ (by omega);simp [q3A,-y0,-y5,-y4,y3,h0,w1,w2]
 ·have w1:IntKind.i64.wrap (n + 1)=n + 1:=IntWalk.i64_in _ (by omega);have w2:IntKind.i64.wrap (0 - (n + 1))=-n - 1:=by rw [IntWalk.i64_in _ (by omega)]; omega
  have w2':IntKind.i64.wrap (-(n + 1))=-n - 1:=by rw [IntWalk.i64_in _ (by omega)]; omega
  have w3:IntKind.u64.wrap (-n - 1)=-n - 1:=q8n _ (by omega);have w4:IntKind.u64.wrap (2 * (-n - 1))=-2 * n - 2:=by rw [q8n _ (by omega)]; omega
  have w5:IntKind.u64.wrap (-2 * n - 2 + 1)=-2 * n - 1:=by rw [q8n _ (by omega)]; omega
  have w6:IntKind.u64.wrap (-(2 * n) - 2 + 1)=-(2 * n) - 1:=by rw [q8n _ (by omega)]; omega
  simp [q3A,-y0,-y5,-y4,y3,h0,w1,w2,w2',w3,w4,w5,w6]
def cmpI (a b:Int):Int:=if a<b then -1 else if b<a then 1 else 0
def lessS (a b:ByteArray):Bool:=Op.bytesLess a.toList b.toList
def cmpS (a b:ByteArray):Int:=if a.size<b.size then -1 else if b.size<a.size then 1 else if a=b then 0 else if lessS a b=true then -1 else 1
def vcmp (a b:Vl):Int :=
 if a.kind≠b.kind then 0
 else if a.kind=1 then (if a.b=b.b then 0 else if b.b=true then -1 else 1)
 else if a.kind=2 then cmpI (zig a.i) (zig b.i)
 else if a.kind=3 then cmpS a.s b.s
 else if a.kind=4 then cmpI a.id b.id
 else 0
theorem order_ev (l e:Bool):evA 178 [.bool l,.bool e] (.int .i64 (if e=true then 0 else if l=true then -1 else 1)):=by
 refine q00 (c:=q5o) rfl rfl ?_;cases l <;> cases e <;> simp [q5o,-y0,-y5,-y4,y3]
theorem nan_u (n:Int):evA 267 [.int .u64 n] (.bool false):=by
 refine q00 (c:=q31) rfl rfl ?_;simp [q31,-y0,-y5,-y4,y3]
theorem nan_i (n:Int):evA 171 [.int .i64 n] (.bool false):=by
 refine q00 (c:=q41) rfl rfl ?_;simp [q41,-y0,-y5,-y4,y3]
theorem nan_s (s:ByteArray):evA 268 [.str s] (.bool false):=by
 refine q00 (c:=q30) rfl rfl ?_;simp [q30,-y0,-y5,-y4,y3]
theorem cmpu_ev (a b:Int):evA 259 [.int .u64 a,.int .u64 b] (.int .i64 (cmpI a b)):=by
 have h1:=nan_u a;have h2:=nan_u b;simp only [evA] at h1 h2;refine q00 (c:=q1V) rfl rfl ?_;unfold cmpI;by_cases c1:a<b
 ·simp [q1V,-y0,-y5,-y4,y3,h1,h2,c1]
 ·by_cases c2:b<a <;> simp [q1V,-y0,-y5,-y4,y3,h1,h2,c1,c2]
theorem cmpi_ev (a b:Int):evA 140 [.int .i64 a,.int .i64 b] (.int .i64 (cmpI a b)):=by
 have h1:=nan_i a;have h2:=nan_i b;simp only [evA] at h1 h2;refine q00 (c:=q2x) rfl rfl ?_;unfold cmpI;by_cases c1:a<b
 ·simp [q2x,-y0,-y5,-y4,y3,h1,h2,c1]
 ·by_cases c2:b<a <;> simp [q2x,-y0,-y5,-y4,y3,h1,h2,c1,c2]
theorem less_irr:∀ a:List UInt8,Op.bytesLess a a=false
 | []=>rfl
 | x :: r=>by simp [Op.bytesLess,less_irr r]
def cmpT (a b:ByteArray):Int:=if lessS a b=true then -1 else if a=b then 0 else 1
theorem cmps_ev (a b:ByteArray):evA 262 [.str a,.str b] (.int .i64 (cmpT a b)):=by
 have h1:=nan_s a;have h2:=nan_s b;simp only [evA] at h1 h2;refine q00 (c:=q1u) rfl rfl ?_;unfold cmpT lessS;cases c1:Op.bytesLess a.toList b.toList with
 | true=>simp [q1u,-y0,-y5,-y4,y3,h1,h2,c1]
 | false =>
  by_cases c2:a=b
  ·subst c2;simp [q1u,-y0,-y5,-y4,y3,h1,c1]
  ·simp [q1u,-y0,-y5,-y4,y3,h1,h2,c1,c2]
theorem or_ev (a b:Int):evA 261 [.sl false [[.int .i64 a],[.int .i64 b]]] (.int .i64 (if a≠0 then a else b)):=by
 obtain ⟨r0,hr⟩:∃ r0,r0=if a≠0 then a else b:=⟨_,rfl⟩
 rw [<- hr];refine q00 (c:=q64) rfl rfl ?_;have w1:IntKind.i64.wrap 1=1:=by decide +kernel
 have w2:IntKind.i64.wrap 2=2:=by decide +kernel
 simp [q64,-y0,-y5,-y4,y3];refine q0f 2 (fun i s=>(s.env 3).v=.int .i64 0/\(s.env 6).v=.sl false [[.int .i64 a],[.int .i64 b]]/\(s.env 7).v=.int .i64 2/\(s.env 8).v=.int .i64 i/\(0<i->a=0)/\(1<i->b=0))
  (fun e s=>(e=.exit 0/\a=0/\b=0/\(s.env 3).v=.int .i64 0)\/(e=.ret/\(s.env 2).v=.int .i64 r0)) (fun i hi s k h ih hk=>?_) _ _ ?_ (fun e s h=>?_)
 ·obtain ⟨e3,e6,e7,e8,ha,hb⟩:=h;refine q04 ?_
  match i,hi with
  | 0,_ =>
   by_cases h0:a=0
   ·simp [q2y,-y0,-y5,-y4,y3,e3,e6,e7,e8,h0,w1];refine ih (by omega) _ ⟨?_,?_,?_,?_,?_,?_⟩ <;> simp [e3,e6,e7,h0]
   ·simp [q2y,-y0,-y5,-y4,y3,e3,e6,e7,e8,h0];exact hk _ _ (.inr ⟨rfl,by simp [hr,h0]⟩)
  | 1,_ =>
   have ha:=ha (by omega);by_cases h0:b=0
   ·simp [q2y,-y0,-y5,-y4,y3,e3,e6,e7,e8,h0,w2];refine ih (by omega) _ ⟨?_,?_,?_,?_,?_,?_⟩ <;> simp [e3,e6,e7,h0,ha]
   ·simp [q2y,-y0,-y5,-y4,y3,e3,e6,e7,e8,h0];exact hk _ _ (.inr ⟨rfl,by simp [hr,ha]⟩)
  | 2,_ =>
   simp [q2y,-y0,-y5,-y4,y3,e3,e6,e7,e8];exact hk _ _ (.inl ⟨rfl,ha (by omega),hb (by omega),by simp [e3]⟩)
 ·simp
 ·rcases h with ⟨rfl,h1,h2,h3⟩ | ⟨rfl,h1⟩
  ·simp [-y0,-y5,-y4,y3,hr,h1,h2,h3]
  ·simp [-y0,-y5,-y4,y3,h1]
theorem cmpS_or (a b:ByteArray):(if cmpI a.size b.size≠0 then cmpI a.size b.size else cmpT a b)=cmpS a b:=by
 unfold cmpS cmpI cmpT;by_cases h1:a.size<b.size
 ·have h1':(a.size:Int)<b.size:=by omega
  simp [h1,h1']
 ·have h1':¬ (a.size:Int)<b.size:=by omega
  by_cases h2:b.size<a.size
  ·have h2':(b.size:Int)<a.size:=by omega
   simp [h1,h1',h2,h2']
  ·have h2':¬ (b.size:Int)<a.size:=by omega
   simp only [h1,h1',h2,h2',if_false,ne_eq,not_true_eq_false];by_cases h3:a=b
   ·subst h3;simp [lessS,less_irr]
   ·simp [h3]
theorem vcmp_ev (a b:Vl) (ha:i64R a.i) (hb:i64R b.i):evA 241 [.agg (valC a),.agg (valC b)] (.int .i64 (vcmp a b)):=by
 refine q00 (c:=q1b) rfl rfl ?_;have z1:=zig_ev a.i ha;have z2:=zig_ev b.i hb;have q1:=cmpu_ev (zig a.i) (zig b.i);have q2:=cmpi_ev a.s.size b.s.size;have q3:=cmps_ev a.s b.s;have q4:=cmpi_ev a.id b.id;have q5:=or_ev (cmpI a.s.size b.s.size) (cmpT a.s b.s);rw [cmpS_or] at q5;simp only [evA] at z1 z2 q1 q2 q3 q4 q5;rw [q03,q03];unfold vcmp;by_cases h0:a.kind=b.kind
 ·rw [h0];by_cases h1:b.kind=1
  ·by_cases h2:a.b=b.b
   ·simp [q1b,-y0,-y5,-y4,y3,h1,h2]
   ·cases h3:b.b <;> rw [h3] at h2 <;> simp at h2 <;> simp [q1b,-y0,-y5,-y4,y3,h1,h2,h3]
  ·by_cases h2:b.kind=2
   ·simp [q1b,-y0,-y5,-y4,y3,h2,z1,z2,q1]
   ·by_cases h3:b.kind=3
    ·simp [q1b,-y0,-y5,-y4,y3,h3,q2,q3,q5]
    ·by_cases h4:b.kind=4
     ·simp [q1b,-y0,-y5,-y4,y3,h4,q4]
     ·simp [q1b,-y0,-y5,-y4,y3,h1,h2,h3,h4]
 ·simp [q1b,-y0,-y5,-y4,y3,h0]
theorem zig_inj {a b:Int} (h:zig a=zig b):a=b:=by
 unfold zig at h;split at h <;> split at h <;> omega
theorem rvcmp_ev (a b:Vl) (ha:i64R a.i) (hb:i64R b.i):evA 149 [.agg (valC a),.agg (valC b)] (.int .i64 (vcmp a b)):=by
 refine q00 (c:=q0m) rfl rfl ?_;have z1:=rzig_ev a.i ha;have z2:=rzig_ev b.i hb;have q1:=fun l e=>order_ev l e
 simp only [evA] at z1 z2 q1;rw [q03,q03];unfold vcmp;by_cases h0:a.kind=b.kind
 ·rw [h0];by_cases h1:b.kind=1
  ·by_cases h2:a.b=b.b
   ·simp [q0m,-y0,-y5,-y4,y3,h1,h2,q1]
   ·cases h3:b.b <;> rw [h3] at h2 <;> simp at h2 <;> simp [q0m,-y0,-y5,-y4,y3,h1,h2,h3,q1]
  ·by_cases h2:b.kind=2
   ·by_cases h5:a.i=b.i
    ·simp [q0m,-y0,-y5,-y4,y3,h2,h5,z2,q1,cmpI]
    ·have h6:zig a.i≠zig b.i:=fun h=>h5 (zig_inj h)
     by_cases h7:zig a.i<zig b.i
     ·simp [q0m,-y0,-y5,-y4,y3,h2,h5,z1,z2,q1,cmpI,h7]
     ·have h8:zig b.i<zig a.i:=by omega
      simp [q0m,-y0,-y5,-y4,y3,h2,h5,z1,z2,q1,cmpI,h7,h8]
   ·by_cases h3:b.kind=3
    ·by_cases h5:a.s.size=b.s.size
     ·have h6:¬ (a.s.size:Int)≠b.s.size:=by omega
      by_cases h7:a.s=b.s
      ·simp [q0m,-y0,-y5,-y4,y3,h3,h7,q1,cmpS]
      ·cases h8:lessS a.s b.s with
       | true =>
        have h9:=h8;unfold lessS at h9;simp [q0m,-y0,-y5,-y4,y3,h3,h5,h6,h7,q1,cmpS,h8,h9]
       | false =>
        have h9:=h8;unfold lessS at h9;simp [q0m,-y0,-y5,-y4,y3,h3,h5,h6,h7,q1,cmpS,h8,h9]
     ·have h6:¬ (a.s.size:Int)=b.s.size:=by omega
      by_cases h7:a.s.size<b.s.size
      ·have h8:(a.s.size:Int)<b.s.size:=by omega
       simp [q0m,-y0,-y5,-y4,y3,h3,h6,h7,h8,q1,cmpS]
      ·have h8:¬ (a.s.size:Int)<b.s.size:=by omega
       have h9:b.s.size<a.s.size:=by omega
       simp [q0m,-y0,-y5,-y4,y3,h3,h6,h7,h8,h9,q1,cmpS]
    ·by_cases h4:b.kind=4
     ·by_cases h5:a.id=b.id
      ·simp [q0m,-y0,-y5,-y4,y3,h4,h5,q1,cmpI]
      ·by_cases h7:a.id<b.id
       ·simp [q0m,-y0,-y5,-y4,y3,h4,h5,h7,q1,cmpI]
       ·have h8:b.id<a.id:=by omega
        simp [q0m,-y0,-y5,-y4,y3,h4,h5,h7,h8,q1,cmpI]
     ·simp [q0m,-y0,-y5,-y4,y3,h1,h2,h3,h4]
 ·simp [q0m,-y0,-y5,-y4,y3,h0]
def q3t (v:Vl):Bool :=
 (decide (v.kind=1)||!v.b)&&((decide (v.kind=2)||decide (v.i=0))&&((decide (v.kind=3)||decide (v.s=⟨#[]⟩))&&((decide (v.kind=4)||decide (v.kind=6)||decide (v.id=0))&&((decide (v.kind=8)||v.keys.isEmpty)&&((decide (5<=v.kind)||v.items.isEmpty)&&(decide (v.kind=5)||decide (v.kind=6)||v.rest.isEmpty))))))
def Vl.bare (v:Vl):Vl:=.mk v.kind (if v.kind=1 then v.b else false) (if v.kind=2 then v.i else 0) (if v.kind=3 then v.s else ⟨#[]⟩) (if v.kind=4\/v.kind=6 then v.id else 0)
 (if v.kind=8 then v.kn else true) (if v.kind=8 then v.keys else []) (if 5<=v.kind then v.xn else true) (if 5<=v.kind then v.items else []) (if v.kind=5\/v.kind=6 then v.rn else true) (if v.kind=5\/v.kind=6 then v.rest else [])
theorem bare_ev1 (v:Vl) (h:v.kind=1):evA 256 [.agg (valC v)] (.agg (valC v.bare)):=by
 refine q00 (c:=q0w) rfl rfl ?_;obtain ⟨k,b,i,s,d,kn,ks,xn,xs,rn,rs⟩:=v;have h:k=1:=h;subst h;rw [q03,q03];simp [q0w,-y0,-y5,-y4,y3,Vl.bare,Vl.kind,Vl.b,Vl.i,Vl.s,Vl.id,Vl.kn,Vl.keys,Vl.xn,Vl.items,Vl.rn,Vl.rest]
theorem bare_ev2 (v:Vl) (h:v.kind=2):evA 256 [.agg (valC v)] (.agg (valC v.bare)):=by
 refine q00 (c:=q0w) rfl rfl ?_;obtain ⟨k,b,i,s,d,kn,ks,xn,xs,rn,rs⟩:=v;have h:k=2:=h;subst h;rw [q03,q03];simp [q0w,-y0,-y5,-y4,y3,Vl.bare,Vl.kind,Vl.b,Vl.i,Vl.s,Vl.id,Vl.kn,Vl.keys,Vl.xn,Vl.items,Vl.rn,Vl.rest]
theorem bare_ev3 (v:Vl) (h:v.kind=3):evA 256 [.agg (valC v)] (.agg (valC v.bare)):=by
 refine q00 (c:=q0w) rfl rfl ?_;obtain ⟨k,b,i,s,d,kn,ks,xn,xs,rn,rs⟩:=v;have h:k=3:=h;subst h;rw [q03,q03];simp [q0w,-y0,-y5,-y4,y3,Vl.bare,Vl.kind,Vl.b,Vl.i,Vl.s,Vl.id,Vl.kn,Vl.keys,Vl.xn,Vl.items,Vl.rn,Vl.rest]
theorem bare_ev4 (v:Vl) (h:v.kind=4):evA 256 [.agg (valC v)] (.agg (valC v.bare)):=by
 refine q00 (c:=q0w) rfl rfl ?_;obtain ⟨k,b,i,s,d,kn,ks,xn,xs,rn,rs⟩:=v;have h:k=4:=h;subst h;rw [q03,q03];simp [q0w,-y0,-y5,-y4,y3,Vl.bare,Vl.kind,Vl.b,Vl.i,Vl.s,Vl.id,Vl.kn,Vl.keys,Vl.xn,Vl.items,Vl.rn,Vl.rest]
theorem bare_ev5 (v:Vl) (h:v.kind=5):evA 256 [.agg (valC v)] (.agg (valC v.bare)):=by
 refine q00 (c:=q0w) rfl rfl ?_;obtain ⟨k,b,i,s,d,kn,ks,xn,xs,rn,rs⟩:=v;have h:k=5:=h;subst h;rw [q03,q03];simp [q0w,-y0,-y5,-y4,y3,Vl.bare,Vl.kind,Vl.b,Vl.i,Vl.s,Vl.id,Vl.kn,Vl.keys,Vl.xn,Vl.items,Vl.rn,Vl.rest]
theorem bare_ev6 (v:Vl) (h:v.kind=6):evA 256 [.agg (valC v)] (.agg (valC v.bare)):=by
 refine q00 (c:=q0w) rfl rfl ?_;obtain ⟨k,b,i,s,d,kn,ks,xn,xs,rn,rs⟩:=v;have h:k=6:=h;subst h;rw [q03,q03];simp [q0w,-y0,-y5,-y4,y3,Vl.bare,Vl.kind,Vl.b,Vl.i,Vl.s,Vl.id,Vl.kn,Vl.keys,Vl.xn,Vl.items,Vl.rn,Vl.rest]
theorem bare_ev7 (v:Vl) (h:v.kind=7):evA 256 [.agg (valC v)] (.agg (valC v.bare)):=by
 refine q00 (c:=q0w) rfl rfl ?_;obtain ⟨k,b,i,s,d,kn,ks,xn,xs,rn,rs⟩:=v;have h:k=7:=h;subst h;rw [q03,q03];simp [q0w,-y0,-y5,-y4,y3,Vl.bare,Vl.kind,Vl.b,Vl.i,Vl.s,Vl.id,Vl.kn,Vl.keys,Vl.xn,Vl.items,Vl.rn,Vl.rest]
theorem bare_ev8 (v:Vl) (h:v.kind=8):evA 256 [.agg (valC v)] (.agg (valC v.bare)):=by
 refine q00 (c:=q0w) rfl rfl ?_;obtain ⟨k,b,i,s,d,kn,ks,xn,xs,rn,rs⟩:=v;have h:k=8:=h;subst h;rw [q03,q03];simp [q0w,-y0,-y5,-y4,y3,Vl.bare,Vl.kind,Vl.b,Vl.i,Vl.s,Vl.id,Vl.kn,Vl.keys,Vl.xn,Vl.items,Vl.rn,Vl.rest]
theorem bare_ev9 (v:Vl) (h:v.kind=9):evA 256 [.agg (valC v)] (.agg (valC v.bare)):=by
 refine q00 (c:=q0w) rfl rfl ?_;obtain ⟨k,b,i,s,d,kn,ks,xn,xs,rn,rs⟩:=v;have h:k=9:=h;subst h;rw [q03,q03];simp [q0w,-y0,-y5,-y4,y3,Vl.bare,Vl.kind,Vl.b,Vl.i,Vl.s,Vl.id,Vl.kn,Vl.keys,Vl.xn,Vl.items,Vl.rn,Vl.rest]
theorem bare_ev (v:Vl) (h:1<=v.kind/\v.kind<=9):evA 256 [.agg (valC v)] (.agg (valC v.bare)):=by
 rcases kinds v.kind with e | e | e | e | e | e | e | e | e | e
 ·exact bare_ev1 v e
 ·exact bare_ev2 v e
 ·exact bare_ev3 v e
 ·exact bare_ev4 v e
 ·exact bare_ev5 v e
 ·exact bare_ev6 v e
 ·exact bare_ev7 v e
 ·exact bare_ev8 v e
 ·exact bare_ev9 v e
 ·exact absurd h e
theorem proper_ev1 (v w:Vl) (hb:evA 256 [.agg (valC v)] (.agg (valC w))):evA 238 [.agg (valC v)] (.bool ((v.b == w.b)&&(decide (v.i=w.i)&&(decide (v.s=w.s)&&(decide (v.id=w.id)&&(decide (v.keys.length=w.keys.length)&&(decide (v.items.length=w.items.length)&&decide (v.rest.length=w.rest.length)))))))):=by
 refine q00 (c:=q1c) rfl rfl ?_;rw [q03,q03] at hb;rw [q03];simp only [evA] at hb;by_cases h1:v.b=w.b
 ·by_cases h2:v.i=w.i
  ·by_cases h3:v.s=w.s
   ·by_cases h4:v.id=w.id
    ·by_cases h5:v.keys.length=w.keys.length
     ·by_cases h6:v.items.length=w.items.length
      ·by_cases h7:v.rest.length=w.rest.length
       ·simp [q1c,-y0,-y5,-y4,y3,hb,h1.symm,h2.symm,h3.symm,h4.symm,h5,h6,h7]
       ·have h7':¬ (v.rest.length:Int)=w.rest.length:=by omega
        simp [q1c,-y0,-y5,-y4,y3,hb,h1.symm,h2.symm,h3.symm,h4.symm,h5,h6,h7,h7']
      ·have h6':¬ (v.items.length:Int)=w.items.length:=by omega
       simp [q1c,-y0,-y5,-y4,y3,hb,h1.symm,h2.symm,h3.symm,h4.symm,h5,h6,h6']
     ·have h5':¬ (v.keys.length:Int)=w.keys.length:=by omega
      simp [q1c,-y0,-y5,-y4,y3,hb,h1.symm,h2.symm,h3.symm,h4.symm,h5,h5']
    ·simp [q1c,-y0,-y5,-y4,y3,hb,h1.symm,h2.symm,h3.symm,h4]
   ·simp [q1c,-y0,-y5,-y4,y3,hb,h1.symm,h2.symm,h3]
  ·simp [q1c,-y0,-y5,-y4,y3,hb,h1.symm,h2]
 ·simp [q1c,-y0,-y5,-y4,y3,hb,h1]
theorem zero_bare {α β:Type} (k:Int) (h:1<=k/\k<=9) (b:Bool) (i:Int) (s:ByteArray) (d:Int) (ks xs:List α) (rs:List β) :
  ((decide (k=1)||!b)&&((decide (k=2)||decide (i=0))&&((decide (k=3)||decide (s=⟨#[]⟩))&&((decide (k=4)||decide (k=6)||decide (d=0))&&((decide (k=8)||ks.isEmpty)&&((decide (5<=k)||xs.isEmpty)&&(decide (k=5)||decide (k=6)||rs.isEmpty))))))) =
  ((b == (if k=1 then b else false))&&(decide (i=(if k=2 then i else 0))&&(decide (s=(if k=3 then s else ⟨#[]⟩))&&(decide (d=(if k=4\/k=6 then d else 0))&&(decide (ks.length=(if k=8 then ks else []).length)&&(decide (xs.length=(if 5<=k then xs else []).length)&&decide (rs.length=(if k=5\/k=6 then rs else []).length))))))):=by
 rcases kinds k with e | e | e | e | e | e | e | e | e | e
 all_goals first | exact absurd h e | skip
 all_goals cases b <;> cases ks <;> cases xs <;> cases rs <;> simp [e]
theorem proper_ev (v:Vl) (h:1<=v.kind/\v.kind<=9):evA 238 [.agg (valC v)] (.bool (q3t v)):=by
 have r:=proper_ev1 v v.bare (bare_ev v h);have e:=zero_bare v.kind h v.b v.i v.s v.id v.keys v.items v.rest;unfold q3t;rw [e];exact r
section
def ascV:List Vl->Bool
 | []=>true
 | [_]=>true
 | a :: b :: r=>decide (vcmp a b<0)&&ascV (b :: r)
def q5f (f:Int->Vl->Bool):List Mem->List Vl->Bool
 | m :: r,v :: q=>f m.ty v&&q5f f r q
 | _,_=>true
def q5A (f:Int->Vl->Bool) (m:Option Mem) (known re:Bool):List Vl->Bool
 | [u]=>(match m with
  | some m=>known&&re&&f m.ty u
  | none=>false)
 | _=>false
theorem qaq (f:Int->Vl->Bool) (m:Option Mem) (a b:Bool) (l:List Vl) (h:¬ l.length=1):q5A f m a b l=false:=by
 match l,h with
 | [],_=>rfl
 | [_],h=>exact absurd rfl h
 | _ :: _ :: _,_=>rfl
theorem unionFit_no (f:Int->Vl->Bool) (m:Option Mem) (b:Bool) (l:List Vl):q5A f m false b l=false:=by
 match l with
 | []=>rfl
 | [_]=>cases m <;> rfl
 | _ :: _ :: _=>rfl
theorem unionFit_re (f:Int->Vl->Bool) (m:Option Mem) (a:Bool) (l:List Vl):q5A f m a false l=false:=by
 match l with
 | []=>rfl
 | [_]=>cases m <;> cases a <;> rfl
 | _ :: _ :: _=>rfl
def fitK (f:Int->Vl->Bool) (x:Typ) (v:Vl):Bool :=
 if x.kind=1 then true
 else if x.kind=2 then decide (x.low<=v.i)&&decide (v.i<=x.high)
 else if x.kind=3 then decide ((v.s.size:Int)<=x.max)
 else if x.kind=4 then decide (0<=q5c x.syms v.id)
 else if x.kind=5 then decide (v.items.length=x.mems.length)&&v.rest.isEmpty&&q5f f x.mems v.items
 else if x.kind=6 then q5A f x.mems[(q1l x.mems v.id).toNat]? (decide (0<=q1l x.mems v.id)) v.rest.isEmpty v.items
 else if x.kind=7 then decide ((v.items.length:Int)<=x.max)&&v.items.all (f x.elem)
 else if x.kind=8 then decide ((v.keys.length:Int)<=x.max)&&decide (v.items.length=v.keys.length)&&v.keys.all (f x.key)&&ascV v.keys&&v.items.all (f x.elem)
 else decide (v.items.length<=1)&&v.items.all (f x.elem)
def fitN (S:List Typ):Nat->Int->Vl->Bool
 | 0,_,_=>false
 | n + 1,t,v=>!q0L S.length t&&(match S[t.toNat]? with
  | some x=>decide (v.kind=x.kind)&&q3t v&&fitK (fitN S n) x v
  | none=>false)
mutual
/-- numbers that occur -/
def Vl.i64:Vl->Prop
 | .mk _ _ i _ _ _ ks _ xs _ _=>i64R i/\Vl.i64s ks/\Vl.i64s xs
def Vl.i64s:List Vl->Prop
 | []=>True
 | v :: r=>Vl.i64 v/\Vl.i64s r
end
theorem Vl.i64s_iff:∀ l:List Vl,Vl.i64s l ↔ ∀ v∈l,v.i64
 | []=>by simp [Vl.i64s]
 | v :: r=>by simp [Vl.i64s,Vl.i64s_iff r]
theorem Vl.i64_def (v:Vl):v.i64 ↔ i64R v.i/\(∀ x∈v.keys,x.i64)/\∀ x∈v.items,x.i64:=by
 cases v;rw [Vl.i64,Vl.i64s_iff,Vl.i64s_iff];rfl
section
variable (sn:Bool) (S:List Typ) (t:Int) (f:Vl->Bool)
abbrev schA (sn:Bool) (S:List Typ):AV:=.agg [.sl sn (S.map typC)]
theorem each1_ev (v:Vl) (h:evA 227 [schA sn S,.int .i64 t,.agg (valC v),.bool true] (.bool (f v))):evA 258 [.agg (valC v),.bp [.sl sn (S.map typC)],.bp [.int .i64 t],.bp [.bool true]] (.bool (!f v)):=by
 refine q00 (c:=q4o) rfl rfl ?_;simp only [evA,q03] at h ⊢;simp [q4o,-y0,-y5,-y4,y3,h]
theorem any_not {α:Type} (f:α->Bool) (l:List α):(!l.any fun x=>!f x)=l.all f:=by
 induction l with
 | nil=>rfl
 | cons x r ih=>simp only [List.any_cons,List.all_cons,Bool.not_or,Bool.not_not,ih]
theorem each_ev (l:List Vl) (hl:l.length<=9223372036854775807) (b:Bool) (h:∀ v∈l,evA 227 [schA sn S,.int .i64 t,.agg (valC v),.bool true] (.bool (f v))):evA 240 [schA sn S,.int .i64 t,.sl b (l.map valC),.bool true] (.bool (l.all f)):=by
 have hi:=indexf_Vl_ev 258 [.bp [.sl sn (S.map typC)],.bp [.int .i64 t],.bp [.bool true]] l (fun v=>!f v) hl (fun _ _=>rfl) (fun v hv=>each1_ev sn S t f v (h v hv)) b;have hc:evA 257 [.sl b (l.map valC),.fn 258 [.bp [.sl sn (S.map typC)],.bp [.int .i64 t],.bp [.bool true]]] (.bool (decide (0<=idxI (fun v=>!f v) l))):=by
  refine q00 (c:=q14) rfl rfl ?_;simp only [evA] at hi;simp [q14,-y0,-y5,-y4,y3,hi]
 rw [<- any_not,<- idxI_any];refine q00 (c:=q6d) rfl rfl ?_;simp only [evA] at hc;simp [q6d,-y0,-y5,-y4,y3,hc]
theorem all_ev (l:List Vl) (hl:l.length<=9223372036854775807) (b:Bool) (h:∀ v∈l,evA 151 [schA sn S,.int .i64 t,.agg (valC v),.bool true] (.bool (f v))):evA 185 [schA sn S,.int .i64 t,.sl b (l.map valC),.bool true] (.bool (l.all f)):=by
 refine q00 (c:=q6Y) rfl rfl ?_;simp [q6Y,-y0,-y5,-y4,y3];refine q0f l.length (fun i s=>(s.env 1).v=.int .i64 t/\(s.env 2).v=.sl b (l.map valC)/\(s.env 3).v=.bool true/\(s.env 4).v=.ptr 4 1 0/\s.mem 4 1=some [⟨.sl sn (S.map typC),.no⟩]/\(s.env 9).v=.int .i64 i/\(l.drop i).all f=l.all f)
  (fun e s=>(e=.exit 0/\l.all f=true)\/(e=.ret/\l.all f=false/\(s.env 8).v=.bool false)) (fun i hi s k h' ih hk=>?_) _ _ ?_ (fun e s h=>?_)
 ·obtain ⟨e1,e2,e3,e4,m4,e9,hs⟩:=h';refine q04 ?_;by_cases hlt:i<l.length
  ·have hlt':(i:Int)<l.length:=by omega
   have g1:(l.map valC)[i]?=some (valC l[i]):=by simp [hlt]
   have hw:=q11 (i:=i) (by omega);have hx:=h l[i] (y8 _);rw [yc hlt,List.all_cons] at hs;generalize l[i]=x at *
   simp only [evA,q03] at g1 hx;cases hp:f x with
   | true =>
    rw [hp] at hx hs;simp [q4G,-y0,-y5,-y4,y3,e1,e2,e3,e4,m4,e9,hlt',g1,hx,hw];refine ih hlt _ ⟨?_,?_,?_,?_,?_,?_,by simpa using hs⟩ <;> simp [e1,e2,e3,e4,m4]
   | false =>
    rw [hp] at hx hs;simp [q4G,-y0,-y5,-y4,y3,e1,e2,e3,e4,m4,e9,hlt',g1,hx];exact hk _ _ (.inr ⟨rfl,by rw [<- hs]; rfl,by simp⟩)
  ·have hlt':¬ (i:Int)<l.length:=by omega
   simp [q4G,-y0,-y5,-y4,y3,e2,e9,hlt'];rw [yg (by omega)] at hs;exact hk _ _ (.inl ⟨rfl,hs.symm⟩)
 ·simp
 ·rcases h with ⟨rfl,h1⟩ | ⟨rfl,h1,h2⟩
  ·simp [-y0,-y5,-y4,y3,h1]
  ·simp [-y0,-y5,-y4,y3,h1,h2]
end
end
theorem fit_ev1 (sn:Bool) (S:List Typ) (t:Int) (x:Typ) (v:Vl) (f:Int->Vl->Bool) (h0:0<=t) (ht1:¬ (S.length:Int)<=t) (g:(S.map typC)[t.toNat]?=some (typC x)) (hk:x.kind=1) (hv:v.kind=1) (hp:evA 182 [.agg (valC v)] (.bool true)) (hr:v.rest=[]):evA 151 [schA sn S,.int .i64 t,.agg (valC v),.bool true] (.bool (true)):=by
 have ht0:¬ t<0:=by omega
 simp only [evA,typC,q03,hk,hv] at hp g;refine q00 (c:=q08) rfl rfl ?_;rw [q03];simp only [hr,yn] at hp ⊢;simp [q08,-y0,-y5,-y4,y3,ht0,ht1,h0,g,hp,hk,hv,hr]
theorem fit_ev2 (sn:Bool) (S:List Typ) (t:Int) (x:Typ) (v:Vl) (f:Int->Vl->Bool) (h0:0<=t) (ht1:¬ (S.length:Int)<=t) (g:(S.map typC)[t.toNat]?=some (typC x)) (hk:x.kind=2) (hv:v.kind=2) (hp:evA 182 [.agg (valC v)] (.bool true)) (hr:v.rest=[]):evA 151 [schA sn S,.int .i64 t,.agg (valC v),.bool true] (.bool (decide (x.low<=v.i)&&decide (v.i<=x.high))):=by
 have ht0:¬ t<0:=by omega
 simp only [evA,typC,q03,hk,hv] at hp g;refine q00 (c:=q08) rfl rfl ?_;rw [q03];simp only [hr,yn] at hp ⊢;by_cases c1:x.low<=v.i
 ·simp [q08,-y0,-y5,-y4,y3,ht0,ht1,h0,g,hp,hk,hv,hr,c1]
 ·simp [q08,-y0,-y5,-y4,y3,ht0,ht1,h0,g,hp,hk,hv,hr,c1]
theorem fit_ev3 (sn:Bool) (S:List Typ) (t:Int) (x:Typ) (v:Vl) (f:Int->Vl->Bool) (h0:0<=t) (ht1:¬ (S.length:Int)<=t) (g:(S.map typC)[t.toNat]?=some (typC x)) (hk:x.kind=3) (hv:v.kind=3) (hp:evA 182 [.agg (valC v)] (.bool true)) (hr:v.rest=[]):evA 151 [schA sn S,.int .i64 t,.agg (valC v),.bool true] (.bool (decide ((v.s.size:Int)<=x.max))):=by
 have ht0:¬ t<0:=by omega
 simp only [evA,typC,q03,hk,hv] at hp g;refine q00 (c:=q08) rfl rfl ?_;rw [q03];simp only [hr,yn] at hp ⊢;simp [q08,-y0,-y5,-y4,y3,ht0,ht1,h0,g,hp,hk,hv,hr]
theorem fit_ev4 (sn:Bool) (S:List Typ) (t:Int) (x:Typ) (v:Vl) (f:Int->Vl->Bool) (h0:0<=t) (ht1:¬ (S.length:Int)<=t) (g:(S.map typC)[t.toNat]?=some (typC x)) (hk:x.kind=4) (hv:v.kind=4) (hp:evA 182 [.agg (valC v)] (.bool true)) (hr:v.rest=[]) (hs:evA 123 [.agg (typC x),.int .i64 v.id] (symA x.syms v.id)):evA 151 [schA sn S,.int .i64 t,.agg (valC v),.bool true] (.bool (decide (0<=q5c x.syms v.id))):=by
 have ht0:¬ t<0:=by omega
 simp only [evA,typC,q03,hk,hv] at hp g;refine q00 (c:=q08) rfl rfl ?_;rw [q03];simp only [hr,yn] at hp ⊢;simp only [evA,typC,symA,hk] at hs;generalize q5c x.syms v.id=ix at *
 by_cases c1:0<=ix
 ·simp only [c1,decide_true] at hs;simp [q08,-y0,-y5,-y4,y3,ht0,ht1,h0,g,hp,hk,hv,hr,hs,c1]
 ·simp only [c1,decide_false] at hs;cases ho:x.opn <;> simp only [ho] at hs g
  ·simp [q08,-y0,-y5,-y4,y3,ht0,ht1,h0,g,hp,hk,hv,hr,hs,c1,ho]
  ·simp [q08,-y0,-y5,-y4,y3,ht0,ht1,h0,g,hp,hk,hv,hr,hs,c1,ho]
theorem fit_ev7 (sn:Bool) (S:List Typ) (t:Int) (x:Typ) (v:Vl) (f:Int->Vl->Bool) (h0:0<=t) (ht1:¬ (S.length:Int)<=t) (g:(S.map typC)[t.toNat]?=some (typC x)) (hk:x.kind=7) (hv:v.kind=7) (hp:evA 182 [.agg (valC v)] (.bool true)) (hr:v.rest=[]) (he:evA 185 [schA sn S,.int .i64 x.elem,.sl v.xn (v.items.map valC),.bool true] (.bool (v.items.all (f x.elem)))):evA 151 [schA sn S,.int .i64 t,.agg (valC v),.bool true] (.bool (decide ((v.items.length:Int)<=x.max)&&v.items.all (f x.elem))):=by
 have ht0:¬ t<0:=by omega
 simp only [evA,typC,q03,hk,hv] at hp g;refine q00 (c:=q08) rfl rfl ?_;rw [q03];simp only [hr,yn] at hp ⊢;simp only [evA] at he;generalize v.items.all (f x.elem)=E at *
 by_cases c1:(v.items.length:Int)<=x.max
 ·simp [q08,-y0,-y5,-y4,y3,ht0,ht1,h0,g,hp,hk,hv,hr,c1,he]
 ·simp [q08,-y0,-y5,-y4,y3,ht0,ht1,h0,g,hp,hk,hv,hr,c1]
theorem fit_ev9 (sn:Bool) (S:List Typ) (t:Int) (x:Typ) (v:Vl) (f:Int->Vl->Bool) (h0:0<=t) (ht1:¬ (S.length:Int)<=t) (g:(S.map typC)[t.toNat]?=some (typC x)) (hk:x.kind=9) (hv:v.kind=9) (hp:evA 182 [.agg (valC v)] (.bool true)) (hr:v.rest=[]) (he:evA 185 [schA sn S,.int .i64 x.elem,.sl v.xn (v.items.map valC),.bool true] (.bool (v.items.all (f x.elem)))):evA 151 [schA sn S,.int .i64 t,.agg (valC v),.bool true] (.bool (decide (v.items.length<=1)&&v.items.all (f x.elem))):=by
 have ht0:¬ t<0:=by omega
 simp only [evA,typC,q03,hk,hv] at hp g;refine q00 (c:=q08) rfl rfl ?_;rw [q03];simp only [hr,yn] at hp ⊢;simp only [evA] at he;generalize v.items.all (f x.elem)=E at *
 by_cases c1:v.items.length<=1
 ·have c2:(v.items.length:Int)<=1:=by omega
  simp [q08,-y0,-y5,-y4,y3,ht0,ht1,h0,g,hp,hk,hv,hr,c1,c2,he]
 ·have c2:¬ (v.items.length:Int)<=1:=by omega
  simp [q08,-y0,-y5,-y4,y3,ht0,ht1,h0,g,hp,hk,hv,hr,c1,c2]
theorem fit_ev5 (sn:Bool) (S:List Typ) (t:Int) (x:Typ) (v:Vl) (f:Int->Vl->Bool) (h0:0<=t) (ht1:¬ (S.length:Int)<=t) (g:(S.map typC)[t.toNat]?=some (typC x)) (hk:x.kind=5) (hv:v.kind=5) (hp:evA 182 [.agg (valC v)] (.bool true)) (hr:v.rest=[]) (hml:x.mems.length<=9223372036854775807) (hre:evA 184 [.agg (typC x),.sl v.rn []] (.bool true)) (hf:∀ m∈x.mems,∀ u∈v.items,evA 151 [schA sn S,.int .i64 m.ty,.agg (valC u),.bool true] (.bool (f m.ty u))):evA 151 [schA sn S,.int .i64 t,.agg (valC v),.bool true] (.bool (decide (v.items.length=x.mems.length)&&q5f f x.mems v.items)):=by
 have ht0:¬ t<0:=by omega
 simp only [evA,typC,q03,hk,hv] at hp g;refine q00 (c:=q08) rfl rfl ?_;rw [q03];simp only [hr,yn] at hp ⊢;simp only [evA,typC,hk] at hre;by_cases c1:v.items.length=x.mems.length
 ·skip
  simp [q08,-y0,-y5,-y4,y3,ht0,ht1,h0,g,hp,hk,hv,c1,hr,hre];refine q0f v.items.length (fun i s=>(s.env 3).v=.bool true/\(s.env 4).v=.ptr 4 1 0/\s.mem 4 1=some [⟨.sl sn (S.map typC),.no⟩]/\(s.env 6).v=.ptr 6 1 0/\s.mem 6 1=some ([⟨.int .i64 v.kind,.no⟩,⟨.bool v.b,.no⟩,⟨.int .i64 v.i,.no⟩,⟨.str v.s,.no⟩,⟨.int .i64 v.id,.no⟩,⟨.sl v.kn (v.keys.map valC),.no⟩,⟨.sl v.xn (v.items.map valC),.no⟩,⟨.sl v.rn (v.rest.map rawC),.no⟩])/\(s.env 9).v=.ptr 9 3 0/\s.mem 9 3=some (q0a x)/\(s.env 12).v=.int .i64 i/\q5f f (x.mems.drop i) (v.items.drop i)=q5f f x.mems v.items)
   (fun e s=>(e=.exit 1/\q5f f x.mems v.items=true)\/(e=.ret/\q5f f x.mems v.items=false/\(s.env 8).v=.bool false)) (fun i hi s k h ih hk'=>?_) _ _ ?_ (fun e s h=>?_)
  ·obtain ⟨e3,e4,m4,e6,m6,e9,m9,e12,hs⟩:=h;refine q04 ?_;by_cases hlt2:i<v.items.length
   ·have hlt':(i:Int)<v.items.length:=by omega
    have hlt:i<x.mems.length:=by omega
    have g1:(x.mems.map memC)[i]?=some (memC x.mems[i]):=by simp [hlt]
    have g2:(v.items.map valC)[i]?=some (valC v.items[i]):=by simp [hlt2]
    have hw:=q11 (i:=i) (by omega);have hx:=hf x.mems[i] (y8 _) v.items[i] (y8 _);rw [yc hlt,yc hlt2,q5f] at hs;generalize x.mems[i]=m at *
    generalize v.items[i]=u at *
    simp only [evA,memC,q03] at g1 g2 hx;cases hfu:f m.ty u with
    | true =>
     rw [hfu] at hx hs;simp [q4I,-y0,-y5,-y4,y3,e3,e4,m4,e6,m6,e9,m9,e12,hlt',g1,g2,hx,hw];refine ih hlt2 _ ⟨?_,?_,?_,?_,?_,?_,?_,?_,by simpa using hs⟩ <;> simp [e3,e4,m4,e6,m6,e9,m9]
    | false =>
     rw [hfu] at hx hs;simp [q4I,-y0,-y5,-y4,y3,e3,e4,m4,e6,m6,e9,m9,e12,hlt',g1,g2,hx];exact hk' _ _ (.inr ⟨rfl,by rw [<- hs]; rfl,by simp⟩)
   ·have hlt':¬ (i:Int)<v.items.length:=by omega
    simp [q4I,-y0,-y5,-y4,y3,e6,m6,e12,hlt'];have hd:x.mems.drop i=[]:=yg (by omega);rw [hd,q5f] at hs
    ·exact hk' _ _ (.inl ⟨rfl,hs.symm⟩)
    ·intro m r v' q h; cases h
  ·simp [hk,hv,hr]
  ·rcases h with ⟨rfl,h1⟩ | ⟨rfl,h1,h2⟩
   ·simp [-y0,-y5,-y4,y3,h1]
   ·simp [-y0,-y5,-y4,y3,h1,h2]
 ·have c1':¬ (v.items.length:Int)=x.mems.length:=by omega
  simp [q08,-y0,-y5,-y4,y3,ht0,ht1,h0,g,hp,hk,hv,hr,c1,c1']
theorem fit_ev6 (sn:Bool) (S:List Typ) (t:Int) (x:Typ) (v:Vl) (f:Int->Vl->Bool) (h0:0<=t) (ht1:¬ (S.length:Int)<=t) (g:(S.map typC)[t.toNat]?=some (typC x)) (hk:x.kind=6) (hv:v.kind=6) (hp:evA 182 [.agg (valC v)] (.bool true)) (hr:v.rest=[]) (hm:evA 99 [.agg (typC x),.int .i64 v.id] (memA x.mems v.id)) (hf:∀ m∈x.mems,∀ u∈v.items,evA 151 [schA sn S,.int .i64 m.ty,.agg (valC u),.bool true] (.bool (f m.ty u))):evA 151 [schA sn S,.int .i64 t,.agg (valC v),.bool true] (.bool (q5A f x.mems[(q1l x.mems v.id).toNat]? (decide (0<=q1l x.mems v.id)) v.rest.isEmpty v.items)):=by
 have ht0:¬ t<0:=by omega
 simp only [evA,typC,q03,hk,hv] at hp g;refine q00 (c:=q08) rfl rfl ?_;rw [q03];simp only [hr,yn] at hp ⊢;simp only [evA,typC,memA,hk] at hm;have hix:=q95 (fun m:Mem=>decide (m.id=v.id)) x.mems;have hge:=q3h (fun m:Mem=>decide (m.id=v.id)) x.mems;change q1l x.mems v.id≠-1->_ at hix;change -1<=q1l x.mems v.id at hge;change ∀ h:q1l x.mems v.id≠-1,∃ y,x.mems[(q1l x.mems v.id).toNat]?=some y/\_ at hix;generalize q1l x.mems v.id=ix at *
 by_cases c1:0<=ix
 ·simp only [c1,decide_true] at hm;obtain ⟨m,hm1,_⟩:=hix (by omega);have hmx:max ix 0=ix:=Int.max_eq_left c1;rw [hmx] at hm;have g2:(x.mems.map memC)[ix.toNat]?=some (memC m):=by rw [yf,hm1]; rfl
  simp only [memC] at g2;rw [hm1];by_cases c2:v.items.length=1
  ·obtain ⟨u,hu⟩:=List.length_eq_one_iff.1 c2;have hf:=hf m (yo hm1) u (by rw [hu]; simp);simp only [evA,q03] at hf;rw [hu] at hp ⊢;simp only [q03,yk,yn] at hp;simp [q08,-y0,-y5,-y4,y3,ht0,ht1,h0,g,hp,hk,hv,hr,hm,g2,c1,hf,q03,q5A]
  ·have c2':¬ (v.items.length:Int)=1:=by omega
   rw [qaq _ _ _ _ _ c2];simp [q08,-y0,-y5,-y4,y3,ht0,ht1,h0,g,hp,hk,hv,hr,hm,g2,c1,c2']
 ·simp only [c1,decide_false] at hm;rw [decide_eq_false c1,unionFit_no];cases ho:x.opn <;> simp only [ho] at hm g
  ·simp [q08,-y0,-y5,-y4,y3,ht0,ht1,h0,g,hp,hk,hv,hr,hm,ho]
  ·simp [q08,-y0,-y5,-y4,y3,ht0,ht1,h0,g,hp,hk,hv,hr,hm,ho]
theorem fit_ev8 (sn:Bool) (S:List Typ) (t:Int) (x:Typ) (v:Vl) (f:Int->Vl->Bool) (h0:0<=t) (ht1:¬ (S.length:Int)<=t) (g:(S.map typC)[t.toNat]?=some (typC x)) (hk:x.kind=8) (hv:v.kind=8) (hp:evA 182 [.agg (valC v)] (.bool true)) (hr:v.rest=[]) (hmx:x.max<=50) (hi64:∀ k∈v.keys,i64R k.i) (he:evA 185 [schA sn S,.int .i64 x.elem,.sl v.xn (v.items.map valC),.bool true] (.bool (v.items.all (f x.elem)))) (hke:evA 185 [schA sn S,.int .i64 x.key,.sl v.kn (v.keys.map valC),.bool true] (.bool (v.keys.all (f x.key)))):evA 151 [schA sn S,.int .i64 t,.agg (valC v),.bool true] (.bool (decide ((v.keys.length:Int)<=x.max)&&decide (v.items.length=v.keys.length)&&v.keys.all (f x.key)&&ascV v.keys&&v.items.all (f x.elem))):=by
 have ht0:¬ t<0:=by omega
 simp only [evA,typC,q03,hk,hv] at hp g;refine q00 (c:=q08) rfl rfl ?_;rw [q03];simp only [hr,yn] at hp ⊢;simp only [evA] at he hke;generalize v.items.all (f x.elem)=E at *
 generalize v.keys.all (f x.key)=KE at *
 by_cases c1:x.max<v.keys.length
 ·have c1':¬ (v.keys.length:Int)<=x.max:=by omega
  simp [q08,-y0,-y5,-y4,y3,ht0,ht1,h0,g,hp,hk,hv,hr,c1,c1']
 have c1':(v.keys.length:Int)<=x.max:=by omega
 have hkl:v.keys.length<=50:=by omega
 by_cases c2:v.items.length=v.keys.length
 case neg =>
  have c2':¬ (v.items.length:Int)=v.keys.length:=by omega
  simp [q08,-y0,-y5,-y4,y3,ht0,ht1,h0,g,hp,hk,hv,hr,c1,c1',c2,c2']
 cases KE with
 | false=>simp [q08,-y0,-y5,-y4,y3,ht0,ht1,h0,g,hp,hk,hv,hr,c1,c1',c2,hke]
 | true =>
  cases E with
  | false=>simp [q08,-y0,-y5,-y4,y3,ht0,ht1,h0,g,hp,hk,hv,hr,c1,c1',c2,hke,he]
  | true =>
  simp [q08,-y0,-y5,-y4,y3,ht0,ht1,h0,g,hp,hk,hv,hr,c1,c1',c2,hke,he];refine q0f (v.keys.length - 1) (fun i s=>(s.env 6).v=.ptr 6 1 0/\s.mem 6 1=some (valRow v)/\(s.env 15).v=.int .i64 ((i + 1:Nat):Int)/\ascV (v.keys.drop i)=ascV v.keys)
   (fun e s=>(e=.exit 3/\ascV v.keys=true)\/(e=.ret/\ascV v.keys=false/\(s.env 8).v=.bool false)) (fun i hi s k h ih hk'=>?_) _ _ ?_ (fun e s h=>?_)
  ·obtain ⟨e6,m6,e20,hs⟩:=h;refine q04 ?_;by_cases hlt:i<v.keys.length - 1
   ·have hl1:i<v.keys.length:=by omega
    have hl2:i + 1<v.keys.length:=by omega
    have hx:=rvcmp_ev v.keys[i] v.keys[i + 1] (hi64 _ (y8 _)) (hi64 _ (y8 _));have g1:(v.keys.map valC)[i]?=some (valC v.keys[i]):=by simp [hl1]
    have g2:(v.keys.map valC)[i + 1]?=some (valC v.keys[i + 1]):=by simp [hl2]
    rw [yc hl1,yc hl2,ascV] at hs;have hs':(decide (vcmp v.keys[i] v.keys[i + 1]<0)&&ascV (v.keys.drop (i + 1)))=ascV v.keys:=by rw [<- hs,yc hl2]
    clear hs;generalize v.keys[i]=a at *
    generalize v.keys[i + 1]=b at *
    obtain ⟨z,hz⟩:∃ z:Int,z=((i + 1:Nat):Int):=⟨_,rfl⟩;obtain ⟨y,hy⟩:∃ y:Int,y=(i:Int):=⟨_,rfl⟩;rw [<- hz] at e20;have hz0:0<=z:=by omega
    have hy0:0<=y:=by omega
    have hlz:z<v.keys.length:=by omega
    have hwm:IntKind.i64.wrap (z - 1)=y:=by rw [IntWalk.i64_in _ (by omega)]; omega
    have hwz:IntKind.i64.wrap (z + 1)=((i + 1 + 1:Nat):Int):=by rw [IntWalk.i64_in _ (by omega)]; omega
    rw [show i=y.toNat from by omega] at g1;rw [show i + 1=z.toNat from by omega] at g2;simp only [evA,q03] at g1 g2 hx;by_cases hc:vcmp a b<0
    ·have hc':¬ 0<=vcmp a b:=by omega
     simp [q4H,-y0,-y5,-y4,y3,e6,m6,e20,hlz,hz0,hy0,hwm,g1,g2,hx,hc',hwz];refine ih hlt _ ⟨?_,?_,?_,by rw [<- hs',decide_eq_true hc]; rfl⟩ <;> simp [e6,m6]
    ·have hc':0<=vcmp a b:=by omega
     simp [q4H,-y0,-y5,-y4,y3,e6,m6,e20,hlz,hz0,hy0,hwm,g1,g2,hx,hc'];exact hk' _ _ (.inr ⟨rfl,by rw [<- hs',decide_eq_false hc]; rfl,by simp⟩)
   ·obtain ⟨z,hz⟩:∃ z:Int,z=((i + 1:Nat):Int):=⟨_,rfl⟩;rw [<- hz] at e20;have hlz:¬ z<v.keys.length:=by omega
    have hasc:ascV (v.keys.drop i)=true:=by
     match hd:v.keys.drop i with
     | []=>rfl
     | [_]=>rfl
     | a :: b :: r=>have:=congrArg List.length hd; simp at this; omega
    rw [hasc] at hs;simp [q4H,-y0,-y5,-y4,y3,e6,m6,e20,hlz];exact hk' _ _ (.inl ⟨rfl,hs.symm⟩)
  ·simp [hv,hr]
  ·rcases h with ⟨rfl,h1⟩ | ⟨rfl,h1,h2⟩
   ·simp [-y0,-y5,-y4,y3,h1]
   ·simp [-y0,-y5,-y4,y3,h1,h2]
theorem rzero_ev1 (v:Vl) (h:v.kind=1):evA 182 [.agg (valC v)] (.bool (q3t v)):=by
 refine q00 (c:=q02) rfl rfl ?_;rw [q03];unfold q3t;by_cases hi:v.i=0
 ·by_cases hs:v.s=⟨#[]⟩
  ·by_cases hd:v.id=0
   ·by_cases hk:v.keys=[]
    ·by_cases hx:v.items=[]
     ·by_cases hr:v.rest=[]
      ·simp [q02,-y0,-y5,-y4,y3,h,hi,hs,hd,hk,hx,hr]
      ·simp [q02,-y0,-y5,-y4,y3,h,hi,hs,hd,hk,hx,hr]
     ·simp [q02,-y0,-y5,-y4,y3,h,hi,hs,hd,hk,hx]
    ·simp [q02,-y0,-y5,-y4,y3,h,hi,hs,hd,hk]
   ·simp [q02,-y0,-y5,-y4,y3,h,hi,hs,hd]
  ·simp [q02,-y0,-y5,-y4,y3,h,hi,hs]
 ·simp [q02,-y0,-y5,-y4,y3,h,hi]
theorem rzero_ev2 (v:Vl) (h:v.kind=2):evA 182 [.agg (valC v)] (.bool (q3t v)):=by
 refine q00 (c:=q02) rfl rfl ?_;rw [q03];unfold q3t;by_cases hb:v.b=false
 ·by_cases hs:v.s=⟨#[]⟩
  ·by_cases hd:v.id=0
   ·by_cases hk:v.keys=[]
    ·by_cases hx:v.items=[]
     ·by_cases hr:v.rest=[]
      ·simp [q02,-y0,-y5,-y4,y3,h,hb,hs,hd,hk,hx,hr]
      ·simp [q02,-y0,-y5,-y4,y3,h,hb,hs,hd,hk,hx,hr]
     ·simp [q02,-y0,-y5,-y4,y3,h,hb,hs,hd,hk,hx]
    ·simp [q02,-y0,-y5,-y4,y3,h,hb,hs,hd,hk]
   ·simp [q02,-y0,-y5,-y4,y3,h,hb,hs,hd]
  ·simp [q02,-y0,-y5,-y4,y3,h,hb,hs]
 ·simp [q02,-y0,-y5,-y4,y3,h,hb]
theorem rzero_ev3 (v:Vl) (h:v.kind=3):evA 182 [.agg (valC v)] (.bool (q3t v)):=by
 refine q00 (c:=q02) rfl rfl ?_;rw [q03];unfold q3t;by_cases hb:v.b=false
 ·by_cases hi:v.i=0
  ·by_cases hd:v.id=0
   ·by_cases hk:v.keys=[]
    ·by_cases hx:v.items=[]
     ·by_cases hr:v.rest=[]
      ·simp [q02,-y0,-y5,-y4,y3,h,hb,hi,hd,hk,hx,hr]
      ·simp [q02,-y0,-y5,-y4,y3,h,hb,hi,hd,hk,hx,hr]
     ·simp [q02,-y0,-y5,-y4,y3,h,hb,hi,hd,hk,hx]
    ·simp [q02,-y0,-y5,-y4,y3,h,hb,hi,hd,hk]
   ·simp [q02,-y0,-y5,-y4,y3,h,hb,hi,hd]
  ·simp [q02,-y0,-y5,-y4,y3,h,hb,hi]
 ·simp [q02,-y0,-y5,-y4,y3,h,hb]
theorem rzero_ev4 (v:Vl) (h:v.kind=4):evA 182 [.agg (valC v)] (.bool (q3t v)):=by
 refine q00 (c:=q02) rfl rfl ?_;rw [q03];unfold q3t;by_cases hb:v.b=false
 ·by_cases hi:v.i=0
  ·by_cases hs:v.s=⟨#[]⟩
   ·by_cases hk:v.keys=[]
    ·by_cases hx:v.items=[]
     ·by_cases hr:v.rest=[]
      ·simp [q02,-y0,-y5,-y4,y3,h,hb,hi,hs,hk,hx,hr]
      ·simp [q02,-y0,-y5,-y4,y3,h,hb,hi,hs,hk,hx,hr]
     ·simp [q02,-y0,-y5,-y4,y3,h,hb,hi,hs,hk,hx]
    ·simp [q02,-y0,-y5,-y4,y3,h,hb,hi,hs,hk]
   ·simp [q02,-y0,-y5,-y4,y3,h,hb,hi,hs]
  ·simp [q02,-y0,-y5,-y4,y3,h,hb,hi]
 ·simp [q02,-y0,-y5,-y4,y3,h,hb]
theorem rzero_ev5 (v:Vl) (h:v.kind=5):evA 182 [.agg (valC v)] (.bool (q3t v)):=by
 refine q00 (c:=q02) rfl rfl ?_;rw [q03];unfold q3t;by_cases hb:v.b=false
 ·by_cases hi:v.i=0
  ·by_cases hs:v.s=⟨#[]⟩
   ·by_cases hd:v.id=0
    ·by_cases hk:v.keys=[]
     ·simp [q02,-y0,-y5,-y4,y3,h,hb,hi,hs,hd,hk]
     ·simp [q02,-y0,-y5,-y4,y3,h,hb,hi,hs,hd,hk]
    ·simp [q02,-y0,-y5,-y4,y3,h,hb,hi,hs,hd]
   ·simp [q02,-y0,-y5,-y4,y3,h,hb,hi,hs]
  ·simp [q02,-y0,-y5,-y4,y3,h,hb,hi]
 ·simp [q02,-y0,-y5,-y4,y3,h,hb]
theorem rzero_ev6 (v:Vl) (h:v.kind=6):evA 182 [.agg (valC v)] (.bool (q3t v)):=by
 refine q00 (c:=q02) rfl rfl ?_;rw [q03];unfold q3t;by_cases hb:v.b=false
 ·by_cases hi:v.i=0
  ·by_cases hs:v.s=⟨#[]⟩
   ·by_cases hk:v.keys=[]
    ·simp [q02,-y0,-y5,-y4,y3,h,hb,hi,hs,hk]
    ·simp [q02,-y0,-y5,-y4,y3,h,hb,hi,hs,hk]
   ·simp [q02,-y0,-y5,-y4,y3,h,hb,hi,hs]
  ·simp [q02,-y0,-y5,-y4,y3,h,hb,hi]
 ·simp [q02,-y0,-y5,-y4,y3,h,hb]
theorem rzero_ev7 (v:Vl) (h:v.kind=7):evA 182 [.agg (valC v)] (.bool (q3t v)):=by
 refine q00 (c:=q02) rfl rfl ?_;rw [q03];unfold q3t;by_cases hb:v.b=false
 ·by_cases hi:v.i=0
  ·by_cases hs:v.s=⟨#[]⟩
   ·by_cases hd:v.id=0
    ·by_cases hk:v.keys=[]
     ·by_cases hr:v.rest=[]
      ·simp [q02,-y0,-y5,-y4,y3,h,hb,hi,hs,hd,hk,hr]
      ·simp [q02,-y0,-y5,-y4,y3,h,hb,hi,hs,hd,hk,hr]
     ·simp [q02,-y0,-y5,-y4,y3,h,hb,hi,hs,hd,hk]
    ·simp [q02,-y0,-y5,-y4,y3,h,hb,hi,hs,hd]
   ·simp [q02,-y0,-y5,-y4,y3,h,hb,hi,hs]
  ·simp [q02,-y0,-y5,-y4,y3,h,hb,hi]
 ·simp [q02,-y0,-y5,-y4,y3,h,hb]
theorem rzero_ev8 (v:Vl) (h:v.kind=8):evA 182 [.agg (valC v)] (.bool (q3t v)):=by
 refine q00 (c:=q02) rfl rfl ?_;rw [q03];unfold q3t;by_cases hb:v.b=false
 ·by_cases hi:v.i=0
  ·by_cases hs:v.s=⟨#[]⟩
   ·by_cases hd:v.id=0
    ·by_cases hr:v.rest=[]
     ·simp [q02,-y0,-y5,-y4,y3,h,hb,hi,hs,hd,hr]
     ·simp [q02,-y0,-y5,-y4,y3,h,hb,hi,hs,hd,hr]
    ·simp [q02,-y0,-y5,-y4,y3,h,hb,hi,hs,hd]
   ·simp [q02,-y0,-y5,-y4,y3,h,hb,hi,hs]
  ·simp [q02,-y0,-y5,-y4,y3,h,hb,hi]
 ·simp [q02,-y0,-y5,-y4,y3,h,hb]
theorem rzero_ev9 (v:Vl) (h:v.kind=9):evA 182 [.agg (valC v)] (.bool (q3t v)):=by
 refine q00 (c:=q02) rfl rfl ?_;rw [q03];unfold q3t;by_cases hb:v.b=false
 ·by_cases hi:v.i=0
  ·by_cases hs:v.s=⟨#[]⟩
   ·by_cases hd:v.id=0
    ·by_cases hk:v.keys=[]
     ·by_cases hr:v.rest=[]
      ·simp [q02,-y0,-y5,-y4,y3,h,hb,hi,hs,hd,hk,hr]
      ·simp [q02,-y0,-y5,-y4,y3,h,hb,hi,hs,hd,hk,hr]
     ·simp [q02,-y0,-y5,-y4,y3,h,hb,hi,hs,hd,hk]
    ·simp [q02,-y0,-y5,-y4,y3,h,hb,hi,hs,hd]
   ·simp [q02,-y0,-y5,-y4,y3,h,hb,hi,hs]
  ·simp [q02,-y0,-y5,-y4,y3,h,hb,hi]
 ·simp [q02,-y0,-y5,-y4,y3,h,hb]
theorem fits_ev1 (sn:Bool) (S:List Typ) (t:Int) (x:Typ) (v:Vl) (f:Int->Vl->Bool) (h0:0<=t) (ht1:¬ (S.length:Int)<=t) (g:(S.map typC)[t.toNat]?=some (typC x)) (hk:x.kind=1) (hv:v.kind=1) (hp:evA 238 [.agg (valC v)] (.bool true)):evA 227 [schA sn S,.int .i64 t,.agg (valC v),.bool true] (.bool (true)):=by
 have ht0:¬ t<0:=by omega
 simp only [evA,typC,q03,hk,hv] at hp g;refine q00 (c:=q06) rfl rfl ?_;rw [q03];simp [q06,-y0,-y5,-y4,y3,ht0,ht1,h0,g,hp,hk,hv]
theorem fits_ev2 (sn:Bool) (S:List Typ) (t:Int) (x:Typ) (v:Vl) (f:Int->Vl->Bool) (h0:0<=t) (ht1:¬ (S.length:Int)<=t) (g:(S.map typC)[t.toNat]?=some (typC x)) (hk:x.kind=2) (hv:v.kind=2) (hp:evA 238 [.agg (valC v)] (.bool true)):evA 227 [schA sn S,.int .i64 t,.agg (valC v),.bool true] (.bool (decide (x.low<=v.i)&&decide (v.i<=x.high))):=by
 have ht0:¬ t<0:=by omega
 simp only [evA,typC,q03,hk,hv] at hp g;refine q00 (c:=q06) rfl rfl ?_;rw [q03];by_cases c1:x.low<=v.i
 ·simp [q06,-y0,-y5,-y4,y3,ht0,ht1,h0,g,hp,hk,hv,c1]
 ·simp [q06,-y0,-y5,-y4,y3,ht0,ht1,h0,g,hp,hk,hv,c1]
theorem fits_ev3 (sn:Bool) (S:List Typ) (t:Int) (x:Typ) (v:Vl) (f:Int->Vl->Bool) (h0:0<=t) (ht1:¬ (S.length:Int)<=t) (g:(S.map typC)[t.toNat]?=some (typC x)) (hk:x.kind=3) (hv:v.kind=3) (hp:evA 238 [.agg (valC v)] (.bool true)):evA 227 [schA sn S,.int .i64 t,.agg (valC v),.bool true] (.bool (decide ((v.s.size:Int)<=x.max))):=by
 have ht0:¬ t<0:=by omega
 simp only [evA,typC,q03,hk,hv] at hp g;refine q00 (c:=q06) rfl rfl ?_;rw [q03];simp [q06,-y0,-y5,-y4,y3,ht0,ht1,h0,g,hp,hk,hv]
theorem fits_ev4 (sn:Bool) (S:List Typ) (t:Int) (x:Typ) (v:Vl) (f:Int->Vl->Bool) (h0:0<=t) (ht1:¬ (S.length:Int)<=t) (g:(S.map typC)[t.toNat]?=some (typC x)) (hk:x.kind=4) (hv:v.kind=4) (hp:evA 238 [.agg (valC v)] (.bool true)) (hs:evA 154 [.agg (typC x),.int .i64 v.id] (symA x.syms v.id)):evA 227 [schA sn S,.int .i64 t,.agg (valC v),.bool true] (.bool (decide (0<=q5c x.syms v.id))):=by
 have ht0:¬ t<0:=by omega
 simp only [evA,typC,q03,hk,hv] at hp g;refine q00 (c:=q06) rfl rfl ?_;rw [q03];simp only [evA,typC,symA,hk] at hs;generalize q5c x.syms v.id=ix at *
 by_cases c1:0<=ix
 ·simp only [c1,decide_true] at hs;simp [q06,-y0,-y5,-y4,y3,ht0,ht1,h0,g,hp,hk,hv,hs,c1]
 ·simp only [c1,decide_false] at hs;cases ho:x.opn <;> simp only [ho] at hs g
  ·simp [q06,-y0,-y5,-y4,y3,ht0,ht1,h0,g,hp,hk,hv,hs,c1,ho]
  ·simp [q06,-y0,-y5,-y4,y3,ht0,ht1,h0,g,hp,hk,hv,hs,c1,ho]
theorem fits_ev7 (sn:Bool) (S:List Typ) (t:Int) (x:Typ) (v:Vl) (f:Int->Vl->Bool) (h0:0<=t) (ht1:¬ (S.length:Int)<=t) (g:(S.map typC)[t.toNat]?=some (typC x)) (hk:x.kind=7) (hv:v.kind=7) (hp:evA 238 [.agg (valC v)] (.bool true)) (he:evA 240 [schA sn S,.int .i64 x.elem,.sl v.xn (v.items.map valC),.bool true] (.bool (v.items.all (f x.elem)))):evA 227 [schA sn S,.int .i64 t,.agg (valC v),.bool true] (.bool (decide ((v.items.length:Int)<=x.max)&&v.items.all (f x.elem))):=by
 have ht0:¬ t<0:=by omega
 simp only [evA,typC,q03,hk,hv] at hp g;refine q00 (c:=q06) rfl rfl ?_;rw [q03];simp only [evA] at he;generalize v.items.all (f x.elem)=E at *
 by_cases c1:(v.items.length:Int)<=x.max
 ·simp [q06,-y0,-y5,-y4,y3,ht0,ht1,h0,g,hp,hk,hv,c1,he]
 ·simp [q06,-y0,-y5,-y4,y3,ht0,ht1,h0,g,hp,hk,hv,c1]
theorem fits_ev9 (sn:Bool) (S:List Typ) (t:Int) (x:Typ) (v:Vl) (f:Int->Vl->Bool) (h0:0<=t) (ht1:¬ (S.length:Int)<=t) (g:(S.map typC)[t.toNat]?=some (typC x)) (hk:x.kind=9) (hv:v.kind=9) (hp:evA 238 [.agg (valC v)] (.bool true)) (he:evA 240 [schA sn S,.int .i64 x.elem,.sl v.xn (v.items.map valC),.bool true] (.bool (v.items.all (f x.elem)))):evA 227 [schA sn S,.int .i64 t,.agg (valC v),.bool true] (.bool (decide (v.items.length<=1)&&v.items.all (f x.elem))):=by
 have ht0:¬ t<0:=by omega
 simp only [evA,typC,q03,hk,hv] at hp g;refine q00 (c:=q06) rfl rfl ?_;rw [q03];simp only [evA] at he;generalize v.items.all (f x.elem)=E at *
 by_cases c1:v.items.length<=1
 ·have c2:(v.items.length:Int)<=1:=by omega
  simp [q06,-y0,-y5,-y4,y3,ht0,ht1,h0,g,hp,hk,hv,c1,c2,he]
 ·have c2:¬ (v.items.length:Int)<=1:=by omega
  simp [q06,-y0,-y5,-y4,y3,ht0,ht1,h0,g,hp,hk,hv,c1,c2]
theorem fits_ev5 (sn:Bool) (S:List Typ) (t:Int) (x:Typ) (v:Vl) (f:Int->Vl->Bool) (h0:0<=t) (ht1:¬ (S.length:Int)<=t) (g:(S.map typC)[t.toNat]?=some (typC x)) (hk:x.kind=5) (hv:v.kind=5) (hp:evA 238 [.agg (valC v)] (.bool true)) (hml:x.mems.length<=9223372036854775807) (hf:∀ m∈x.mems,∀ u∈v.items,evA 227 [schA sn S,.int .i64 m.ty,.agg (valC u),.bool true] (.bool (f m.ty u))):evA 227 [schA sn S,.int .i64 t,.agg (valC v),.bool true] (.bool (decide (v.items.length=x.mems.length)&&v.rest.isEmpty&&q5f f x.mems v.items)):=by
 have ht0:¬ t<0:=by omega
 simp only [evA,typC,q03,hk,hv] at hp g;refine q00 (c:=q06) rfl rfl ?_;rw [q03];by_cases c1:v.items.length=x.mems.length
 ·by_cases c2:v.rest=[]
  case neg =>
   have c2':0<v.rest.length:=by
    have:v.rest.length≠0:=fun h=>c2 (yP h)
    omega
   simp [q06,-y0,-y5,-y4,y3,ht0,ht1,h0,g,hp,hk,hv,c1,c2,c2']
  rw [c2] at hp ⊢;simp only [yn] at hp;simp [q06,-y0,-y5,-y4,y3,ht0,ht1,h0,g,hp,hk,hv,c1,c2];refine q04 ?_;simp [q7G,-y0,-y5,-y4,y3];refine q0f x.mems.length (fun i s=>(s.env 3).v=.bool true/\(s.env 4).v=.ptr 4 1 0/\s.mem 4 1=some [⟨.sl sn (S.map typC),.no⟩]/\(s.env 6).v=.ptr 6 1 0/\s.mem 6 1=some ([⟨.int .i64 5,.no⟩,⟨.bool v.b,.no⟩,⟨.int .i64 v.i,.no⟩,⟨.str v.s,.no⟩,⟨.int .i64 v.id,.no⟩,⟨.sl v.kn (v.keys.map valC),.no⟩,⟨.sl v.xn (v.items.map valC),.no⟩,⟨.sl v.rn [],.no⟩])/\(s.env 150).v=.sl x.mn (x.mems.map memC)/\(s.env 151).v=.int .i64 x.mems.length/\(s.env 152).v=.int .i64 i/\q5f f (x.mems.drop i) (v.items.drop i)=q5f f x.mems v.items)
   (fun e s=>(e=.exit 3/\q5f f x.mems v.items=true)\/(e=.ret/\q5f f x.mems v.items=false/\(s.env 8).v=.bool false)) (fun i hi s k h ih hk'=>?_) _ _ ?_ (fun e s h=>?_)
  ·obtain ⟨e3,e4,m4,e6,m6,e150,e151,e152,hs⟩:=h;refine q04 ?_;by_cases hlt:i<x.mems.length
   ·have hlt':(i:Int)<x.mems.length:=by omega
    have hlt2:i<v.items.length:=by omega
    have g1:(x.mems.map memC)[i]?=some (memC x.mems[i]):=by simp [hlt]
    have g2:(v.items.map valC)[i]?=some (valC v.items[i]):=by simp [hlt2]
    have hw:=q11 (i:=i) (by omega);have hx:=hf x.mems[i] (y8 _) v.items[i] (y8 _);rw [yc hlt,yc hlt2,q5f] at hs;generalize x.mems[i]=m at *
    generalize v.items[i]=u at *
    simp only [evA,memC,q03] at g1 g2 hx;cases hfu:f m.ty u with
    | true =>
     rw [hfu] at hx hs;simp [q4q,-y0,-y5,-y4,y3,e3,e4,m4,e6,m6,e150,e151,e152,hlt',g1,g2,hx,hw];refine ih hlt _ ⟨?_,?_,?_,?_,?_,?_,?_,?_,by simpa using hs⟩ <;> simp [e3,e4,m4,e6,m6,e150,e151]
    | false =>
     rw [hfu] at hx hs;simp [q4q,-y0,-y5,-y4,y3,e3,e4,m4,e6,m6,e150,e151,e152,hlt',g1,g2,hx];exact hk' _ _ (.inr ⟨rfl,by rw [<- hs]; rfl,by simp⟩)
   ·have hlt':¬ (i:Int)<x.mems.length:=by omega
    simp [q4q,-y0,-y5,-y4,y3,e151,e152,hlt'];rw [yg (by omega),q5f] at hs
    ·exact hk' _ _ (.inl ⟨rfl,hs.symm⟩)
    ·intro m r v' q h; cases h
  ·simp [-y0,-y5,-y4,y3]
  ·rcases h with ⟨rfl,h1⟩ | ⟨rfl,h1,h2⟩
   ·simp [-y0,-y5,-y4,y3,h1]
   ·simp [-y0,-y5,-y4,y3,h1,h2]
 ·have c1':¬ (v.items.length:Int)=x.mems.length:=by omega
  simp [q06,-y0,-y5,-y4,y3,ht0,ht1,h0,g,hp,hk,hv,c1,c1']
theorem fits_ev6 (sn:Bool) (S:List Typ) (t:Int) (x:Typ) (v:Vl) (f:Int->Vl->Bool) (h0:0<=t) (ht1:¬ (S.length:Int)<=t) (g:(S.map typC)[t.toNat]?=some (typC x)) (hk:x.kind=6) (hv:v.kind=6) (hp:evA 238 [.agg (valC v)] (.bool true)) (hm:evA 137 [.agg (typC x),.int .i64 v.id] (memA x.mems v.id)) (hf:∀ m∈x.mems,∀ u∈v.items,evA 227 [schA sn S,.int .i64 m.ty,.agg (valC u),.bool true] (.bool (f m.ty u))):evA 227 [schA sn S,.int .i64 t,.agg (valC v),.bool true] (.bool (q5A f x.mems[(q1l x.mems v.id).toNat]? (decide (0<=q1l x.mems v.id)) v.rest.isEmpty v.items)):=by
 have ht0:¬ t<0:=by omega
 simp only [evA,typC,q03,hk,hv] at hp g;refine q00 (c:=q06) rfl rfl ?_;rw [q03];simp only [evA,typC,memA,hk] at hm;have hix:=q95 (fun m:Mem=>decide (m.id=v.id)) x.mems;have hge:=q3h (fun m:Mem=>decide (m.id=v.id)) x.mems;change q1l x.mems v.id≠-1->_ at hix;change -1<=q1l x.mems v.id at hge;change ∀ h:q1l x.mems v.id≠-1,∃ y,x.mems[(q1l x.mems v.id).toNat]?=some y/\_ at hix;generalize q1l x.mems v.id=ix at *
 by_cases c1:0<=ix
 ·simp only [c1,decide_true] at hm;obtain ⟨m,hm1,_⟩:=hix (by omega);have hmx:max ix 0=ix:=Int.max_eq_left c1;rw [hmx] at hm;have g2:(x.mems.map memC)[ix.toNat]?=some (memC m):=by rw [yf,hm1]; rfl
  simp only [memC] at g2;rw [hm1];by_cases c2:v.items.length=1
  ·obtain ⟨u,hu⟩:=List.length_eq_one_iff.1 c2;have hf:=hf m (yo hm1) u (by rw [hu]; simp);simp only [evA,q03] at hf;rw [hu] at hp ⊢;simp only [q03,yk,yn] at hp;by_cases c3:v.rest=[]
   ·rw [c3] at hp ⊢;simp only [yn] at hp;simp [q06,-y0,-y5,-y4,y3,ht0,ht1,h0,g,hp,hk,hv,hm,g2,c1,hf,q03,q5A]
   ·simp [q06,-y0,-y5,-y4,y3,ht0,ht1,h0,g,hp,hk,hv,hm,g2,c1,c3,q03,q5A]
  ·have c2':¬ (v.items.length:Int)=1:=by omega
   rw [qaq _ _ _ _ _ c2];simp [q06,-y0,-y5,-y4,y3,ht0,ht1,h0,g,hp,hk,hv,hm,g2,c1,c2']
 ·simp only [c1,decide_false] at hm;rw [decide_eq_false c1,unionFit_no];cases ho:x.opn <;> simp only [ho] at hm g
  ·simp [q06,-y0,-y5,-y4,y3,ht0,ht1,h0,g,hp,hk,hv,hm,ho]
  ·simp [q06,-y0,-y5,-y4,y3,ht0,ht1,h0,g,hp,hk,hv,hm,ho]
theorem fits_ev8 (sn:Bool) (S:List Typ) (t:Int) (x:Typ) (v:Vl) (f:Int->Vl->Bool) (h0:0<=t) (ht1:¬ (S.length:Int)<=t) (g:(S.map typC)[t.toNat]?=some (typC x)) (hk:x.kind=8) (hv:v.kind=8) (hp:evA 238 [.agg (valC v)] (.bool true)) (hr:v.rest=[]) (hmx:x.max<=50) (hi64:∀ k∈v.keys,i64R k.i) (he:evA 240 [schA sn S,.int .i64 x.elem,.sl v.xn (v.items.map valC),.bool true] (.bool (v.items.all (f x.elem)))) (hke:evA 240 [schA sn S,.int .i64 x.key,.sl v.kn (v.keys.map valC),.bool true] (.bool (v.keys.all (f x.key)))):evA 227 [schA sn S,.int .i64 t,.agg (valC v),.bool true] (.bool (decide ((v.keys.length:Int)<=x.max)&&decide (v.items.length=v.keys.length)&&v.keys.all (f x.key)&&ascV v.keys&&v.items.all (f x.elem))):=by
 have ht0:¬ t<0:=by omega
 simp only [evA,typC,q03,hk,hv] at hp g;refine q00 (c:=q06) rfl rfl ?_;rw [q03];simp only [hr,yn] at hp ⊢;simp only [evA] at he hke;generalize v.items.all (f x.elem)=E at *
 generalize v.keys.all (f x.key)=KE at *
 by_cases c1:x.max<v.keys.length
 ·have c1':¬ (v.keys.length:Int)<=x.max:=by omega
  simp [q06,-y0,-y5,-y4,y3,ht0,ht1,h0,g,hp,hk,hv,hr,c1,c1']
 have c1':(v.keys.length:Int)<=x.max:=by omega
 have hkl:v.keys.length<=50:=by omega
 by_cases c2:v.items.length=v.keys.length
 case neg =>
  have c2':¬ (v.items.length:Int)=v.keys.length:=by omega
  simp [q06,-y0,-y5,-y4,y3,ht0,ht1,h0,g,hp,hk,hv,hr,c1,c1',c2,c2']
 cases KE with
 | false=>simp [q06,-y0,-y5,-y4,y3,ht0,ht1,h0,g,hp,hk,hv,hr,c1,c1',c2,hke]
 | true =>
  simp [q06,-y0,-y5,-y4,y3,ht0,ht1,h0,g,hp,hk,hv,hr,c1,c1',c2,hke];refine q0f (v.keys.length - 1) (fun i s=>(s.env 3).v=.bool true/\(s.env 4).v=.ptr 4 1 0/\s.mem 4 1=some [⟨.sl sn (S.map typC),.no⟩]/\(s.env 9).v=.ptr 9 3 0/\s.mem 9 3=some (q0a x)/\(s.env 6).v=.ptr 6 1 0/\s.mem 6 1=some (valRow v)/\(s.env 20).v=.int .i64 ((i + 1:Nat):Int)/\ascV (v.keys.drop i)=ascV v.keys)
   (fun e s=>(e=.exit 5/\ascV v.keys=true/\(s.env 3).v=.bool true/\(s.env 4).v=.ptr 4 1 0/\s.mem 4 1=some [⟨.sl sn (S.map typC),.no⟩]/\(s.env 9).v=.ptr 9 3 0/\s.mem 9 3=some (q0a x)/\(s.env 6).v=.ptr 6 1 0/\s.mem 6 1=some (valRow v))\/(e=.ret/\ascV v.keys=false/\(s.env 8).v=.bool false)) (fun i hi s k h ih hk'=>?_) _ _ ?_ (fun e s h=>?_)
  ·obtain ⟨e3,e4,m4,e9,m9,e6,m6,e20,hs⟩:=h;refine q04 ?_;by_cases hlt:i<v.keys.length - 1
   ·have hl1:i<v.keys.length:=by omega
    have hl2:i + 1<v.keys.length:=by omega
    have hx:=vcmp_ev v.keys[i] v.keys[i + 1] (hi64 _ (y8 _)) (hi64 _ (y8 _));have g1:(v.keys.map valC)[i]?=some (valC v.keys[i]):=by simp [hl1]
    have g2:(v.keys.map valC)[i + 1]?=some (valC v.keys[i + 1]):=by simp [hl2]
    rw [yc hl1,yc hl2,ascV] at hs;have hs':(decide (vcmp v.keys[i] v.keys[i + 1]<0)&&ascV (v.keys.drop (i + 1)))=ascV v.keys:=by rw [<- hs,yc hl2]
    clear hs;generalize v.keys[i]=a at *
    generalize v.keys[i + 1]=b at *
    obtain ⟨z,hz⟩:∃ z:Int,z=((i + 1:Nat):Int):=⟨_,rfl⟩;obtain ⟨y,hy⟩:∃ y:Int,y=(i:Int):=⟨_,rfl⟩;rw [<- hz] at e20;have hz0:0<=z:=by omega
    have hy0:0<=y:=by omega
    have hlz:z<v.keys.length:=by omega
    have hwm:IntKind.i64.wrap (z - 1)=y:=by rw [IntWalk.i64_in _ (by omega)]; omega
    have hwz:IntKind.i64.wrap (z + 1)=((i + 1 + 1:Nat):Int):=by rw [IntWalk.i64_in _ (by omega)]; omega
    rw [show i=y.toNat from by omega] at g1;rw [show i + 1=z.toNat from by omega] at g2;simp only [evA,q03] at g1 g2 hx;by_cases hc:vcmp a b<0
    ·have hc':¬ 0<=vcmp a b:=by omega
     simp [q4p,-y0,-y5,-y4,y3,e6,m6,e20,hlz,hz0,hy0,hwm,g1,g2,hx,hc',hwz];refine ih hlt _ ⟨?_,?_,?_,?_,?_,?_,?_,?_,by rw [<- hs',decide_eq_true hc]; rfl⟩ <;> simp [e6,m6,e3,e4,m4,e9,m9]
    ·have hc':0<=vcmp a b:=by omega
     simp [q4p,-y0,-y5,-y4,y3,e6,m6,e20,hlz,hz0,hy0,hwm,g1,g2,hx,hc'];exact hk' _ _ (.inr ⟨rfl,by rw [<- hs',decide_eq_false hc]; rfl,by simp⟩)
   ·obtain ⟨z,hz⟩:∃ z:Int,z=((i + 1:Nat):Int):=⟨_,rfl⟩;rw [<- hz] at e20;have hlz:¬ z<v.keys.length:=by omega
    have hasc:ascV (v.keys.drop i)=true:=by
     match hd:v.keys.drop i with
     | []=>rfl
     | [_]=>rfl
     | a :: b :: r=>have:=congrArg List.length hd; simp at this; omega
    rw [hasc] at hs;simp [q4p,-y0,-y5,-y4,y3,e6,m6,e20,hlz];exact hk' _ _ (.inl ⟨rfl,hs.symm,by simp [e3],by simp [e4],by simp [m4],by simp [e9],by simp [m9],by simp [e6],by simp [m6]⟩)
  ·simp [hk,hv,hr]
  ·rcases h with ⟨rfl,h1,e3,e4,m4,e9,m9,e6,m6⟩ | ⟨rfl,h1,h2⟩
   ·simp [-y0,-y5,-y4,y3,h1,e3,e4,m4,e9,m9,e6,m6,he,hk]
   ·simp [-y0,-y5,-y4,y3,h1,h2]
def goodS (S:List Typ):Prop:=∀ x∈S,q0Q x=true/\x.fine
theorem good_max {x:Typ} (h:q0Q x=true) (hk:x.kind=8):x.max<=50:=by
 unfold q0Q q6O at h;simp [hk] at h;omega
theorem rest_fit (f:Int->Vl->Bool) (x:Typ) (v:Vl) (hk:v.kind=x.kind) (hz:q3t v=true) (hr:v.rest≠[]):fitK f x v=false:=by
 have hre:v.rest.isEmpty=false:=by simpa using hr
 by_cases h5:x.kind=5
 ·simp [fitK,h5,hre]
 ·by_cases h6:x.kind=6
  ·simp [fitK,h6,hre,unionFit_re]
  ·simp [q3t,hk,h5,h6,hr] at hz
theorem fits_evO (sn:Bool) (S:List Typ) (t:Int) (v:Vl) (h:q0L S.length t=true):evA 227 [schA sn S,.int .i64 t,.agg (valC v),.bool true] (.bool false):=by
 refine q00 (c:=q06) rfl rfl ?_;rw [q03];by_cases h0:t<0
 ·simp [q06,-y0,-y5,-y4,y3,h0]
 ·have h1:(S.length:Int)<=t:=by simpa [q0L,h0] using h
  simp [q06,-y0,-y5,-y4,y3,h0,h1]
theorem fits_evK (sn:Bool) (S:List Typ) (t:Int) (x:Typ) (v:Vl) (h0:0<=t) (ht1:¬ (S.length:Int)<=t) (g:(S.map typC)[t.toNat]?=some (typC x)) (hk:¬ v.kind=x.kind):evA 227 [schA sn S,.int .i64 t,.agg (valC v),.bool true] (.bool false):=by
 have ht0:¬ t<0:=by omega
 simp only [typC] at g;refine q00 (c:=q06) rfl rfl ?_;rw [q03];simp [q06,-y0,-y5,-y4,y3,ht0,ht1,h0,g,hk]
theorem fits_evZ (sn:Bool) (S:List Typ) (t:Int) (x:Typ) (v:Vl) (h0:0<=t) (ht1:¬ (S.length:Int)<=t) (g:(S.map typC)[t.toNat]?=some (typC x)) (hk:v.kind=x.kind) (hp:evA 238 [.agg (valC v)] (.bool false)):evA 227 [schA sn S,.int .i64 t,.agg (valC v),.bool true] (.bool false):=by
 have ht0:¬ t<0:=by omega
 simp only [evA,typC,q03,hk] at hp g;refine q00 (c:=q06) rfl rfl ?_;rw [q03];simp [q06,-y0,-y5,-y4,y3,ht0,ht1,h0,g,hp,hk]
theorem fits_ev (sn:Bool) (S:List Typ) (hS:goodS S):∀ (n:Nat) (t:Int) (v:Vl),SizeOf.sizeOf v<n->v.ok->v.i64->evA 227 [schA sn S,.int .i64 t,.agg (valC v),.bool true] (.bool (fitN S n t v)):=by
 intro n
 induction n with
 | zero=>intro t v h; omega
 | succ n ih =>
  intro t v hn hok h64;rw [fitN];cases ho:q0L S.length t with
  | true=>exact fits_evO sn S t v ho
  | false =>
   obtain ⟨h0,ht1⟩:0<=t/\¬ (S.length:Int)<=t:=by
    simp [q0L] at ho;omega
   have hlt:t.toNat<S.length:=by omega
   have hmem:S[t.toNat]∈S:=y8 _;have g:(S.map typC)[t.toNat]?=some (typC S[t.toNat]):=by rw [yf,y7 hlt]; rfl
   rw [y7 hlt];generalize S[t.toNat]=x at *
   obtain ⟨hgx,hfx⟩:=hS x hmem;have hkr:=q5M hgx;simp only [Bool.not_false,Bool.true_and];by_cases hk:v.kind=x.kind
   case neg=>rw [decide_eq_false hk]; exact fits_evK sn S t x v h0 ht1 g hk
   rw [decide_eq_true hk];simp only [Bool.true_and];have hp:=proper_ev v (by rw [hk]; exact hkr);cases hz:q3t v with
   | false=>rw [hz] at hp; exact fits_evZ sn S t x v h0 ht1 g hk hp
   | true =>
    rw [hz] at hp;simp only [Bool.true_and];rw [Vl.ok_def] at hok;rw [Vl.i64_def] at h64;obtain ⟨o1,o2,o3,o4,o5,o6⟩:=hok;obtain ⟨j1,j2,j3⟩:=h64;have hit:∀ u∈v.items,∀ t',evA 227 [schA sn S,.int .i64 t',.agg (valC u),.bool true] (.bool (fitN S n t' u)):=fun u hu t'=>ih t' u (by have:=Vl.items_lt v u hu; omega) (o6 u hu) (j3 u hu)
    have hke:∀ u∈v.keys,∀ t',evA 227 [schA sn S,.int .i64 t',.agg (valC u),.bool true] (.bool (fitN S n t' u)):=fun u hu t'=>ih t' u (by have:=Vl.keys_lt v u hu; omega) (o5 u hu) (j2 u hu)
    have hmlen:x.mems.length<=9223372036854775807:=hfx.1.2.1;have hslen:x.syms.length<=9223372036854775807:=hfx.1.1;unfold fitK;have hv:=hk;rcases kinds x.kind with e | e | e | e | e | e | e | e | e | e
    all_goals try rw [e] at hv
    ·have r:=fits_ev1 sn S t x v (fitN S n) h0 ht1 g e hv hp; simpa [e] using r
    ·have r:=fits_ev2 sn S t x v (fitN S n) h0 ht1 g e hv hp; simpa [e] using r
    ·have r:=fits_ev3 sn S t x v (fitN S n) h0 ht1 g e hv hp; simpa [e] using r
    ·have r:=fits_ev4 sn S t x v (fitN S n) h0 ht1 g e hv hp (sym_ev x v.id hslen); simpa [e] using r
    ·have r:=fits_ev5 sn S t x v (fitN S n) h0 ht1 g e hv hp hmlen (fun m _ u hu=>hit u hu m.ty); simpa [e] using r
    ·have r:=fits_ev6 sn S t x v (fitN S n) h0 ht1 g e hv hp (mem_ev x v.id hmlen) (fun m _ u hu=>hit u hu m.ty); simpa [e] using r
    ·have r:=fits_ev7 sn S t x v (fitN S n) h0 ht1 g e hv hp (each_ev sn S x.elem (fitN S n x.elem) v.items o2 v.xn fun u hu=>hit u hu x.elem); simpa [e] using r
    ·have r:=fits_ev8 sn S t x v (fitN S n) h0 ht1 g e hv hp (by simp [q3t,hv] at hz; simp [hz]) (good_max hgx e) (fun u hu=>((Vl.i64_def u).1 (j2 u hu)).1) (each_ev sn S x.elem (fitN S n x.elem) v.items o2 v.xn fun u hu=>hit u hu x.elem) (each_ev sn S x.key (fitN S n x.key) v.keys o1 v.kn fun u hu=>hke u hu x.key); simpa [e] using r
    ·have r:=fits_ev9 sn S t x v (fitN S n) h0 ht1 g e hv hp (each_ev sn S x.elem (fitN S n x.elem) v.items o2 v.xn fun u hu=>hit u hu x.elem); simpa [e] using r
    ·exact absurd hkr e
theorem rzero_ev (v:Vl) (h:1<=v.kind/\v.kind<=9):evA 182 [.agg (valC v)] (.bool (q3t v)):=by
 rcases kinds v.kind with e | e | e | e | e | e | e | e | e | e
 ·exact rzero_ev1 v e
 ·exact rzero_ev2 v e
 ·exact rzero_ev3 v e
 ·exact rzero_ev4 v e
 ·exact rzero_ev5 v e
 ·exact rzero_ev6 v e
 ·exact rzero_ev7 v e
 ·exact rzero_ev8 v e
 ·exact rzero_ev9 v e
 ·exact absurd h e
theorem rest_ev (x:Typ) (b:Bool):evA 184 [.agg (typC x),.sl b []] (.bool true):=by
 refine q00 (c:=q68) rfl rfl ?_;simp [q68,-y0,-y5,-y4,y3,typC];refine q0f 0 (fun i s=>(s.env 1).v=.sl b []/\(s.env 5).v=.int .i64 0) (fun e s=>e=.exit 0) (fun i hi s k h ih hk=>?_) _ _ ?_ (fun e s h=>?_)
 ·obtain ⟨e1,e5⟩:=h;refine q04 ?_;simp [q7B,-y0,-y5,-y4,y3,e1,e5];exact hk _ _ rfl
 ·simp
 ·subst h;simp [-y0,-y5,-y4,y3]
theorem fit_evR (sn:Bool) (S:List Typ) (t:Int) (x:Typ) (v:Vl) (h0:0<=t) (ht1:¬ (S.length:Int)<=t) (g:(S.map typC)[t.toNat]?=some (typC x)) (hk:v.kind=x.kind) (hp:evA 182 [.agg (valC v)] (.bool true)) (hr:v.rest≠[]):evA 151 [schA sn S,.int .i64 t,.agg (valC v),.bool true] (.bool false):=by
 have ht0:¬ t<0:=by omega
 have hr2:0<v.rest.length:=by
  have:v.rest.length≠0:=fun h=>hr (yP h)
  omega
 simp only [evA,typC,q03,hk] at hp g;refine q00 (c:=q08) rfl rfl ?_;rw [q03];simp [q08,-y0,-y5,-y4,y3,ht0,ht1,h0,g,hp,hk,hr,hr2]
theorem fit_evO (sn:Bool) (S:List Typ) (t:Int) (v:Vl) (h:q0L S.length t=true):evA 151 [schA sn S,.int .i64 t,.agg (valC v),.bool true] (.bool false):=by
 refine q00 (c:=q08) rfl rfl ?_;rw [q03];by_cases h0:t<0
 ·simp [q08,-y0,-y5,-y4,y3,h0]
 ·have h1:(S.length:Int)<=t:=by simpa [q0L,h0] using h
  simp [q08,-y0,-y5,-y4,y3,h0,h1]
theorem fit_evK (sn:Bool) (S:List Typ) (t:Int) (x:Typ) (v:Vl) (h0:0<=t) (ht1:¬ (S.length:Int)<=t) (g:(S.map typC)[t.toNat]?=some (typC x)) (hk:¬ v.kind=x.kind):evA 151 [schA sn S,.int .i64 t,.agg (valC v),.bool true] (.bool false):=by
 have ht0:¬ t<0:=by omega
 simp only [typC] at g;refine q00 (c:=q08) rfl rfl ?_;rw [q03];simp [q08,-y0,-y5,-y4,y3,ht0,ht1,h0,g,hk]
theorem fit_evZ (sn:Bool) (S:List Typ) (t:Int) (x:Typ) (v:Vl) (h0:0<=t) (ht1:¬ (S.length:Int)<=t) (g:(S.map typC)[t.toNat]?=some (typC x)) (hk:v.kind=x.kind) (hp:evA 182 [.agg (valC v)] (.bool false)):evA 151 [schA sn S,.int .i64 t,.agg (valC v),.bool true] (.bool false):=by
 have ht0:¬ t<0:=by omega
 simp only [evA,typC,q03,hk] at hp g;refine q00 (c:=q08) rfl rfl ?_;rw [q03];simp [q08,-y0,-y5,-y4,y3,ht0,ht1,h0,g,hp,hk]
theorem fit_ev (sn:Bool) (S:List Typ) (hS:goodS S):∀ (n:Nat) (t:Int) (v:Vl),SizeOf.sizeOf v<n->v.ok->v.i64->evA 151 [schA sn S,.int .i64 t,.agg (valC v),.bool true] (.bool (fitN S n t v)):=by
 intro n
 induction n with
 | zero=>intro t v h; omega
 | succ n ih =>
  intro t v hn hok h64;rw [fitN];cases ho:q0L S.length t with
  | true=>exact fit_evO sn S t v ho
  | false =>
   obtain ⟨h0,ht1⟩:0<=t/\¬ (S.length:Int)<=t:=by
    simp [q0L] at ho;omega
   have hlt:t.toNat<S.length:=by omega
   have hmem:S[t.toNat]∈S:=y8 _;have g:(S.map typC)[t.toNat]?=some (typC S[t.toNat]):=by rw [yf,y7 hlt]; rfl
   rw [y7 hlt];generalize S[t.toNat]=x at *
   obtain ⟨hgx,hfx⟩:=hS x hmem;have hkr:=q5M hgx;simp only [Bool.not_false,Bool.true_and];by_cases hk:v.kind=x.kind
   case neg=>rw [decide_eq_false hk]; exact fit_evK sn S t x v h0 ht1 g hk
   rw [decide_eq_true hk];simp only [Bool.true_and];have hp:=rzero_ev v (by rw [hk]; exact hkr);cases hz:q3t v with
   | false=>rw [hz] at hp; exact fit_evZ sn S t x v h0 ht1 g hk hp
   | true =>
    rw [hz] at hp;simp only [Bool.true_and];rw [Vl.ok_def] at hok;rw [Vl.i64_def] at h64;obtain ⟨o1,o2,o3,o4,o5,o6⟩:=hok;obtain ⟨j1,j2,j3⟩:=h64;have hit:∀ u∈v.items,∀ t',evA 151 [schA sn S,.int .i64 t',.agg (valC u),.bool true] (.bool (fitN S n t' u)):=fun u hu t'=>ih t' u (by have:=Vl.items_lt v u hu; omega) (o6 u hu) (j3 u hu)
    have hke:∀ u∈v.keys,∀ t',evA 151 [schA sn S,.int .i64 t',.agg (valC u),.bool true] (.bool (fitN S n t' u)):=fun u hu t'=>ih t' u (by have:=Vl.keys_lt v u hu; omega) (o5 u hu) (j2 u hu)
    have hmlen:x.mems.length<=9223372036854775807:=hfx.1.2.1;have hslen:x.syms.length<=9223372036854775807:=hfx.1.1;by_cases hr:v.rest=[]
    case neg=>rw [rest_fit _ x v hk hz hr]; exact fit_evR sn S t x v h0 ht1 g hk hp hr
    unfold fitK;have hv:=hk;rcases kinds x.kind with e | e | e | e | e | e | e | e | e | e
    all_goals try rw [e] at hv
    ·have r:=fit_ev1 sn S t x v (fitN S n) h0 ht1 g e hv hp hr; simpa [e] using r
    ·have r:=fit_ev2 sn S t x v (fitN S n) h0 ht1 g e hv hp hr; simpa [e] using r
    ·have r:=fit_ev3 sn S t x v (fitN S n) h0 ht1 g e hv hp hr; simpa [e] using r
    ·have r:=fit_ev4 sn S t x v (fitN S n) h0 ht1 g e hv hp hr (rsym_ev x v.id hslen); simpa [e] using r
    ·have r:=fit_ev5 sn S t x v (fitN S n) h0 ht1 g e hv hp hr hmlen (rest_ev x v.rn) (fun m _ u hu=>hit u hu m.ty); simpa [e,hr] using r
    ·have r:=fit_ev6 sn S t x v (fitN S n) h0 ht1 g e hv hp hr (rmem_ev x v.id hmlen) (fun m _ u hu=>hit u hu m.ty); simpa [e] using r
    ·have r:=fit_ev7 sn S t x v (fitN S n) h0 ht1 g e hv hp hr (all_ev sn S x.elem (fitN S n x.elem) v.items o2 v.xn fun u hu=>hit u hu x.elem); simpa [e] using r
    ·have r:=fit_ev8 sn S t x v (fitN S n) h0 ht1 g e hv hp hr (good_max hgx e) (fun u hu=>((Vl.i64_def u).1 (j2 u hu)).1) (all_ev sn S x.elem (fitN S n x.elem) v.items o2 v.xn fun u hu=>hit u hu x.elem) (all_ev sn S x.key (fitN S n x.key) v.keys o1 v.kn fun u hu=>hke u hu x.key); simpa [e] using r
    ·have r:=fit_ev9 sn S t x v (fitN S n) h0 ht1 g e hv hp hr (all_ev sn S x.elem (fitN S n x.elem) v.items o2 v.xn fun u hu=>hit u hu x.elem); simpa [e] using r
    ·exact absurd hkr e
theorem rnames_lp (sn:Bool) (S:List Typ) (i:Nat) (hiS:i<S.length) (hS:S.length<=9223372036854775807) (t:Typ) (p:Nat) (r:RV) (P:MSt->Prop) (hP:∀ s s':MSt,s'.mem=s.mem->s'.obj=s.obj->(∀ t,t ∉ [2,5,27,28,29,30,31,32,33,34,35,36,37,38,39,40,41,42,43,44,45]->s'.env t=s.env t)->P s->P s') (k:Ex->MSt->Option RV)
  (hk:∀ s',¬ (t.named=true/\t.name∈(S.take i).map Typ.name)->P s'->k (.exit 2) s'=some r) (hr:∀ s':MSt,t.named=true/\t.name∈(S.take i).map Typ.name->(s'.env 2).v=.int .i64 1->k .ret s'=some r)
  (s:MSt) (hs:P s) (h1:(s.env 1).v=.ptr 1 1 0) (m1:s.mem 1 1=some [⟨.sl sn (S.map typC),.no⟩]) (h3:(s.env 3).v=.int .i64 i) (h4:(s.env 4).v=.ptr 4 p 0) (m4:s.mem 4 p=some (q0a t)) (h5:(s.env 5).v=.int .i64 0):evL allT q01 q1R s k=some r:=by
 have hnm:=q1Q t.kind;change evA _ _ (.bool t.named) at hnm;simp only [evA] at hnm;refine q0f i (fun j s=>P s/\(s.env 1).v=.ptr 1 1 0/\s.mem 1 1=some [⟨.sl sn (S.map typC),.no⟩]/\(s.env 3).v=.int .i64 i/\(s.env 4).v=.ptr 4 p 0/\s.mem 4 p=some (q0a t)/\(s.env 5).v=.int .i64 j/\¬ (t.named=true/\t.name∈(S.take j).map Typ.name))
  (fun e s=>(e=.exit 2/\¬ (t.named=true/\t.name∈(S.take i).map Typ.name)/\P s)\/(e=.ret/\(t.named=true/\t.name∈(S.take i).map Typ.name)/\(s.env 2).v=.int .i64 1)) (fun j hj s k h ih hk=>?_) _ _ ?_ (fun e s h=>?_)
 ·obtain ⟨hp,e1,m1,e3,e4,m4,e5,hs⟩:=h;refine q04 ?_;by_cases hlt:j<i
  ·have hlt':(j:Int)<i:=by omega
   have hjS:j<S.length:=by omega
   have g1:(S.map typC)[j]?=some (typC S[j]):=by simp [hjS]
   have hw:=q11 (i:=j) (by omega);have ht:S.take (j + 1)=S.take j++[S[j]]:=(yR hjS).symm;have hmem:S[j]∈S.take i:=List.mem_take_iff_getElem.2 ⟨j,by omega,rfl⟩;generalize S[j]=u at *
   simp only [typC] at g1;have nxt:∀ s',s'.mem=s.mem->s'.obj=s.obj->(∀ t,t ∉ [2,5,27,28,29,30,31,32,33,34,35,36,37,38,39,40,41,42,43,44,45]->s'.env t=s.env t)->(s'.env 5).v=.int .i64 ((j + 1:Nat):Int)->¬ (t.named=true/\u.name=t.name)->evL allT q01 q1R s' k=some r:=fun s' hm ho he h5 hn=>by
    refine ih hlt _ ⟨hP s s' hm ho he hp,?_,?_,?_,?_,?_,h5,?_⟩
    ·rw [he 1 (by decide)]; exact e1
    ·rw [hm]; exact m1
    ·rw [he 3 (by decide)]; exact e3
    ·rw [he 4 (by decide)]; exact e4
    ·rw [hm]; exact m4
    ·rw [ht,List.map_append,yA];rintro ⟨h1,h2 | h2⟩
     ·exact hs ⟨h1,h2⟩
     ·simp at h2; exact hn ⟨h1,h2.symm⟩
   cases hb:t.named with
   | false =>
    rw [hb] at hnm;simp [q1R,-y0,-y5,-y4,y3,e1,m1,e3,e4,m4,e5,hlt',g1,hnm,hw];refine nxt _ rfl rfl ?_ ?_ (by simp [hb])
    ·intro t ht;simp only [yj,yJ,or_false,not_or] at ht;simp [q3X,ht]
    ·simp
   | true =>
    rw [hb] at hnm;by_cases hne:u.name=t.name
    ·simp [q1R,-y0,-y5,-y4,y3,e1,m1,e3,e4,m4,e5,hlt',g1,hnm,hne];exact hk _ _ (.inr ⟨rfl,⟨hb,hne ▸ List.mem_map_of_mem hmem⟩,by simp⟩)
    ·simp [q1R,-y0,-y5,-y4,y3,e1,m1,e3,e4,m4,e5,hlt',g1,hnm,hne,hw];refine nxt _ rfl rfl ?_ ?_ (by simp [hne])
     ·intro t ht;simp only [yj,yJ,or_false,not_or] at ht;simp [q3X,ht]
     ·simp
  ·have hlt':¬ (j:Int)<i:=by omega
   have hji:j=i:=by omega
   simp [q1R,-y0,-y5,-y4,y3,e3,e5,hlt'];refine hk _ _ (.inl ⟨rfl,hji ▸ hs,hP s _ rfl rfl ?_ hp⟩);intro t ht;simp only [yj,yJ,or_false,not_or] at ht;simp [q3X,ht]
 ·simp [hs,h1,m1,h3,h4,m4,h5]
 ·rcases h with ⟨rfl,h1,h2⟩ | ⟨rfl,h1,h2⟩
  ·exact hk s h1 h2
  ·exact hr s h1 h2
theorem rvuses_lp (sn:Bool) (S:List Typ) (U:List Int) (hU:U.length<=9223372036854775807) (bu:Bool) (r:RV) (P:MSt->Prop) (hP:∀ s s':MSt,s'.mem=s.mem->s'.obj=s.obj->(∀ t,t ∉ [2,7,48,49,50,51,52,53,54,55,56,57,58,59,60,61,62,63,64,65,66,67,68]->s'.env t=s.env t)->P s->P s') (k:Ex->MSt->Option RV)
  (hk:∀ s',U.any (q0L S.length)=false->P s'->k (.exit 4) s'=some r) (hr:∀ s':MSt,U.any (q0L S.length)=true->(s'.env 2).v=.int .i64 4->k .ret s'=some r)
  (s:MSt) (hs:P s) (h1:(s.env 1).v=.ptr 1 1 0) (m1:s.mem 1 1=some [⟨.sl sn (S.map typC),.no⟩]) (h6:(s.env 6).v=.sl bu (U.map intC)) (h7:(s.env 7).v=.int .i64 0):evL allT q01 q2c s k=some r:=by
 refine q0f U.length (fun i s=>P s/\(s.env 1).v=.ptr 1 1 0/\s.mem 1 1=some [⟨.sl sn (S.map typC),.no⟩]/\(s.env 6).v=.sl bu (U.map intC)/\(s.env 7).v=.int .i64 i/\(U.drop i).any (q0L S.length)=U.any (q0L S.length))
  (fun e s=>(e=.exit 4/\U.any (q0L S.length)=false/\P s)\/(e=.ret/\U.any (q0L S.length)=true/\(s.env 2).v=.int .i64 4)) (fun i hi s k h ih hk=>?_) _ _ ?_ (fun e s h=>?_)
 ·obtain ⟨hp,e1,m1,e6,e7,hs⟩:=h;refine q04 ?_;by_cases hlt:i<U.length
  ·have hlt':(i:Int)<U.length:=by omega
   have g1:(U.map intC)[i]?=some (intC U[i]):=by simp [hlt]
   have hw:=q11 (i:=i) (by omega);rw [yc hlt,List.any_cons] at hs;generalize U[i]=u at *
   simp only [intC] at g1;by_cases c1:u<0
   ·simp [q2c,-y0,-y5,-y4,y3,e1,m1,e6,e7,hlt',g1,c1];exact hk _ _ (.inr ⟨rfl,by rw [<- hs]; simp [q0L,c1],by simp⟩)
   by_cases c2:(S.length:Int)<=u
   ·simp [q2c,-y0,-y5,-y4,y3,e1,m1,e6,e7,hlt',g1,c1,c2];exact hk _ _ (.inr ⟨rfl,by rw [<- hs]; simp [q0L,c2],by simp⟩)
   simp [q2c,-y0,-y5,-y4,y3,e1,m1,e6,e7,hlt',g1,c1,c2,hw];refine ih hlt _ ⟨hP s _ rfl rfl ?_ hp,?_,?_,?_,?_,?_⟩
   ·intro t ht;simp only [yj,yJ,or_false,not_or] at ht;simp [q3X,ht]
   ·simp [e1]
   ·simp [m1]
   ·simp [e6]
   ·simp
   ·rw [<- hs]; simp [q0L,c1,c2]
  ·have hlt':¬ (i:Int)<U.length:=by omega
   simp [q2c,-y0,-y5,-y4,y3,e6,e7,hlt'];rw [yg (by omega)] at hs;refine hk _ _ (.inl ⟨rfl,hs.symm,hP s _ rfl rfl ?_ hp⟩);intro t ht;simp only [yj,yJ,or_false,not_or] at ht;simp [q3X,ht]
 ·simp [hs,h1,m1,h6,h7]
 ·rcases h with ⟨rfl,h1,h2⟩ | ⟨rfl,h1,h2⟩
  ·exact hk s h1 h2
  ·exact hr s h1 h2
theorem rvalid_ev (s:Sch) (hs:s.fine):evA 150 [.agg (schC s)] (.int .i64 (valid s.types)):=by
 obtain ⟨hlen,hfine⟩:=hs;refine q00 (c:=q49) rfl rfl ?_;unfold valid;by_cases h32:32<s.types.length
 ·have h32':(32:Int)<s.types.length:=by omega
  simp [q49,-y0,-y5,-y4,y3,schC,h32,h32']
 have h32':¬ (32:Int)<s.types.length:=by omega
 simp [q49,-y0,-y5,-y4,y3,schC,h32,h32'];refine q0f s.types.length (fun i σ=>(σ.env 1).v=.ptr 1 1 0/\σ.mem 1 1=some [⟨.sl s.nl (s.types.map typC),.no⟩]/\(σ.env 3).v=.int .i64 i/\q1L s.types (s.types.length - i) i=q1L s.types s.types.length 0)
  (fun e σ=>(e=.exit 0/\q1L s.types s.types.length 0=0)\/(e=.ret/\(σ.env 2).v=.int .i64 (q1L s.types s.types.length 0))) (fun i hi σ k h ih hk=>?_) _ _ ?_ (fun e σ h=>?_)
 ·obtain ⟨e1,m1,e3,hv⟩:=h;refine q04 ?_;by_cases hlt:i<s.types.length
  ·have hlt':(i:Int)<s.types.length:=by omega
   have g1:(s.types.map typC)[i]?=some (typC s.types[i]):=by simp [hlt]
   have hw:=q11 (i:=i) (by omega);have hf:=own_ev s.types[i] (hfine _ (y8 _));have hu:=fun h9:(s.types[i]'hlt).kind<=9=>ruses_ev (s.types[i]'hlt) (hfine _ (y8 hlt)).2.2 h9 _ rfl
   have hml:=(hfine _ (y8 hlt)).2.2;rw [qar hlt] at hv;generalize s.types[i]=t at *
   have hul:t.usesL.length<=9223372036854775807:=by
    unfold Typ.usesL;by_cases h8:t.kind=8 <;> by_cases h7:7<=t.kind <;> simp [h8,h7] <;> omega
   simp only [evA,typC] at hf hu;simp only [typC] at g1;have err:∀ σ' n,q1X s.types i t=n->n≠0->(σ'.env 2).v=.int .i64 n->k .ret σ'=some (.int .i64 (q1L s.types s.types.length 0),none):=fun σ' n h1 h2 h3=>hk _ _ (.inr ⟨rfl,by rw [h3,<- hv,h1,if_neg h2]⟩)
   cases c1:q0Q t with
   | false =>
    rw [c1] at hf;simp [q3J,-y0,-y5,-y4,y3,e1,m1,e3,hlt',g1,hf];exact err _ 1 (by simp [q1X,c1]) (by decide) (by simp)
   | true =>
    rw [c1] at hf;have hu:=hu (q5M c1).2;simp [q3J,-y0,-y5,-y4,y3,e1,m1,e3,hlt',g1,hf];refine rnames_lp s.nl s.types i hlt hlen t (σ.next + 1) _ (fun σ2=>(σ2.env 1).v=.ptr 1 1 0/\σ2.mem 1 1=some [⟨.sl s.nl (s.types.map typC),.no⟩]/\(σ2.env 3).v=.int .i64 i/\(σ2.env 4).v=.ptr 4 (σ.next + 1) 0/\σ2.mem 4 (σ.next + 1)=some (q0a t)) (fun a b hm ho he h=>?_) _ (fun σ2 c2 h=>?_) (fun σ2 c2 h2=>?_) _ ⟨?_,?_,?_,?_,?_⟩ ?_ ?_ ?_ ?_ ?_ ?_
    ·rw [hm,he 1 (by decide),he 3 (by decide),he 4 (by decide)];exact h
    ·obtain ⟨f1,fm,f3,f4,fp⟩:=h;simp [-y0,-y5,-y4,y3,f1,fm,f3,f4,fp,hu];refine rvuses_lp s.nl s.types t.usesL hul t.usesL.isEmpty _ (fun σ2=>(σ2.env 1).v=.ptr 1 1 0/\σ2.mem 1 1=some [⟨.sl s.nl (s.types.map typC),.no⟩]/\(σ2.env 3).v=.int .i64 i/\(σ2.env 4).v=.ptr 4 (σ.next + 1) 0/\σ2.mem 4 (σ.next + 1)=some (q0a t)) (fun a b hm ho he h=>?_) _ (fun σ2 c3 h=>?_) (fun σ2 c3 h2=>?_) _ ⟨?_,?_,?_,?_,?_⟩ ?_ ?_ ?_ ?_
     ·rw [hm,he 1 (by decide),he 3 (by decide),he 4 (by decide)];exact h
     ·obtain ⟨f1,fm,f3,f4,fp⟩:=h;by_cases h8:t.kind=8
      ·obtain ⟨hk0,hk1⟩:=key_in h8 c3;have h3:t.key.toNat<s.types.length:=by omega
       have gy:(s.types.map typC)[t.key.toNat]?=some (typC s.types[t.key.toNat]):=by rw [yf,y7 h3]; rfl
       have hy:q5N s.types t.key=s.types[t.key.toNat].kind:=by unfold q5N; rw [y7 h3]
       generalize s.types[t.key.toNat]=y at *
       have hkk:=keykind_ev y.kind;simp only [typC] at gy;simp only [evA] at hkk;by_cases c4:1<=y.kind/\y.kind<=4
       ·rw [decide_eq_true c4] at hkk;simp [-y0,-y5,-y4,y3,f1,fm,f3,f4,fp,h8,hk0,gy,hkk,hw];refine ih hlt _ ⟨?_,?_,?_,?_⟩
        ·simp [f1]
        ·simp [fm]
        ·simp
        ·rw [<- hv,if_pos];unfold q1X;rw [if_neg (by simp [c1]),if_neg c2,if_neg (by simp [c3]),if_neg fun h=>h.2 (by rw [hy]; exact c4)]
       ·rw [decide_eq_false c4] at hkk;simp [-y0,-y5,-y4,y3,f1,fm,f3,f4,fp,h8,hk0,gy,hkk];exact err _ 1 (by unfold q1X; rw [if_neg (by simp [c1]),if_neg c2,if_neg (by simp [c3]),if_pos ⟨h8,by rw [hy]; exact c4⟩]) (by decide) (by simp)
      ·simp [-y0,-y5,-y4,y3,f1,fm,f3,f4,fp,h8,hw];refine ih hlt _ ⟨?_,?_,?_,?_⟩
       ·simp [f1]
       ·simp [fm]
       ·simp
       ·rw [<- hv,if_pos];unfold q1X;rw [if_neg (by simp [c1]),if_neg c2,if_neg (by simp [c3]),if_neg fun h=>h8 h.1]
     ·simp [-y0,-y5,-y4,y3];exact err _ 4 (by unfold q1X; rw [if_neg (by simp [c1]),if_neg c2,if_pos c3]) (by decide) h2
     all_goals simp [f1,fm,f3,f4,fp]
    ·simp [-y0,-y5,-y4,y3];exact err _ 1 (by unfold q1X; rw [if_neg (by simp [c1]),if_pos c2]) (by decide) h2
    all_goals simp [e1,m1,e3]
  ·have hlt':¬ (i:Int)<s.types.length:=by omega
   simp [q3J,-y0,-y5,-y4,y3,e1,m1,e3,hlt'];refine hk _ _ (.inl ⟨rfl,?_⟩);rw [<- hv,show s.types.length - i=0 from by omega,q1L]
 ·refine ⟨?_,?_,?_,?_⟩ <;> simp
 ·rcases h with ⟨rfl,h1⟩ | ⟨rfl,h1⟩
  ·simp [-y0,-y5,-y4,y3,h1]
  ·simp [-y0,-y5,-y4,y3,h1]
noncomputable def q5T (S:List Typ) (t:Int) (v:Vl):Bool:=fitN S (SizeOf.sizeOf v + 1) t v
theorem plain_v (sn:Bool) (S:List Typ) (hS:goodS S) (t:Int) (v:Vl) (hok:v.ok) (h64:v.i64):evA 215 [schA sn S,.int .i64 t,.agg (valC v)] (.bool (q5T S t v)):=by
 have h:=fits_ev sn S hS (SizeOf.sizeOf v + 1) t v (by omega) hok h64;simp only [evA,q03] at h ⊢;refine q00 (c:=q5t) rfl rfl ?_;unfold q5T;simp [q5t,-y0,-y5,-y4,y3,h]
theorem rplain_v (sn:Bool) (S:List Typ) (hS:goodS S) (t:Int) (v:Vl) (hok:v.ok) (h64:v.i64):evA 121 [schA sn S,.int .i64 t,.agg (valC v)] (.bool (q5T S t v)):=by
 have h:=fit_ev sn S hS (SizeOf.sizeOf v + 1) t v (by omega) hok h64;simp only [evA,q03] at h ⊢;refine q00 (c:=q5n) rfl rfl ?_;unfold q5T;simp [q5n,-y0,-y5,-y4,y3,h]
theorem valid_types {l:List Typ}:∀ n i,i + n=l.length->q1L l n i=0->∀ j,i<=j->(h:j<l.length)->q1X l j l[j]=0
 | 0,i,hi,_,j,hj,h=>by omega
 | n + 1,i,hi,h0,j,hj,h=>by
  have hlt:i<l.length:=by omega
  rw [q1L,y7 hlt] at h0;simp only at h0;by_cases he:q1X l i l[i]=0
  ·rw [if_pos he] at h0;rcases Nat.lt_or_eq_of_le hj with h1 | h1
   ·exact valid_types n (i + 1) (by omega) h0 j h1 h
   ·subst h1; exact he
  ·rw [if_neg he] at h0; exact absurd h0 he
theorem q4O {l:List Typ} {i:Nat} {t:Typ} (h:q1X l i t=0):q0Q t=true/\t.usesL.any (q0L l.length)=false:=by
 unfold q1X at h;by_cases h1:q0Q t=false
 ·rw [if_pos h1] at h; cases h
 ·rw [if_neg h1] at h;refine ⟨by simpa using h1,?_⟩;by_cases h2:t.named=true/\t.name∈(l.take i).map Typ.name
  ·rw [if_pos h2] at h; cases h
  ·rw [if_neg h2] at h;by_cases h3:t.usesL.any (q0L l.length)=true
   ·rw [if_pos h3] at h; cases h
   ·simpa using h3
theorem q3F {l:List Typ} (h:valid l=0) (j:Nat) (hj:j<l.length):q1X l j l[j]=0:=by
 unfold valid at h;by_cases h32:32<l.length
 ·rw [if_pos h32] at h; cases h
 ·rw [if_neg h32] at h;exact valid_types l.length 0 (by omega) h j (by omega) hj
theorem q8b {s:Sch} (hs:s.fine) (h:valid s.types=0):goodS s.types:=fun x hx=>by
 obtain ⟨j,hj,rfl⟩:=yC hx;exact ⟨(q4O (q3F h j hj)).1,hs.2 _ hx⟩
noncomputable def badM (S:List Typ) (m:Mem):Bool:=m.has&&!q5T S m.ty m.dflt
noncomputable def q6l (S:List Typ) (t:Typ):Option Int:=(t.mems.find? (badM S)).map Mem.id
noncomputable def q2b (S:List Typ):Nat->Nat->Option (Nat × Int)
 | 0,_=>none
 | n + 1,i=>match S[i]? with
  | some t=>(match q6l S t with
   | some d=>some (i,d)
   | none=>q2b S n (i + 1))
  | none=>none
def dfltA:Option (Nat × Int)->AV
 | some (i,d)=>.tup [.int .i64 i,.int .i64 d,.int .i64 1]
 | none=>.tup [.int .i64 0,.int .i64 0,.int .i64 0]
noncomputable def dfltsA (S:List Typ):AV:=if valid S=0 then dfltA (q2b S S.length 0) else .tup [.int .i64 0,.int .i64 0,.int .i64 (valid S)]
def Typ.d64 (t:Typ):Prop:=∀ m∈t.mems,m.dflt.i64
def Sch.d64 (s:Sch):Prop:=∀ t∈s.types,t.d64
theorem dflts_step {S:List Typ} {i:Nat} (h:i<S.length):q2b S (S.length - i) i=match q6l S S[i] with
  | some d=>some (i,d)
  | none=>q2b S (S.length - (i + 1)) (i + 1):=by
 rw [show S.length - i=(S.length - (i + 1)) + 1 from by omega,q2b,y7 h]
theorem dlp (sn:Bool) (S:List Typ) (hS:goodS S) (t:Typ) (ht:t.fine) (h64:t.d64) (b:Bool) (i:Nat) (r:RV) (P:MSt->Prop) (hP:∀ s s':MSt,(∀ t n,t≠9->s'.mem t n=s.mem t n)->(∀ t,t ∉ [2,3,4,9,27,28,29,30,31,32,33,34,35,36,37,38,39,40,41,42,43,44,26]->s'.env t=s.env t)->P s->P s') (k:Ex->MSt->Option RV)
  (hk:∀ s',q6l S t=none->P s'->k (.exit 2) s'=some r) (hr:∀ (s':MSt) d,q6l S t=some d->(s'.env 2).v=.int .i64 i->(s'.env 3).v=.int .i64 d->(s'.env 4).v=.int .i64 1->k .ret s'=some r)
  (s:MSt) (hs:P s) (h1:(s.env 1).v=.ptr 1 1 0) (m1:s.mem 1 1=some [⟨.sl sn (S.map typC),.no⟩]) (h6:(s.env 6).v=.int .i64 i) (h24:(s.env 24).v=.sl b (t.mems.map memC)) (h25:(s.env 25).v=.int .i64 t.mems.length) (h26:(s.env 26).v=.int .i64 0):evL allT q01 q1h s k=some r:=by
 refine q0f t.mems.length (fun j s=>P s/\(s.env 1).v=.ptr 1 1 0/\s.mem 1 1=some [⟨.sl sn (S.map typC),.no⟩]/\(s.env 6).v=.int .i64 i/\(s.env 24).v=.sl b (t.mems.map memC)/\(s.env 25).v=.int .i64 t.mems.length/\(s.env 26).v=.int .i64 j/\(t.mems.drop j).find? (badM S)=t.mems.find? (badM S))
  (fun e s=>(e=.exit 2/\q6l S t=none/\P s)\/(e=.ret/\∃ d,q6l S t=some d/\(s.env 2).v=.int .i64 i/\(s.env 3).v=.int .i64 d/\(s.env 4).v=.int .i64 1)) (fun j hj s k h ih hk=>?_) _ _ ?_ (fun e s h=>?_)
 ·obtain ⟨hp,e1,m1,e6,e24,e25,e26,hs⟩:=h;refine q04 ?_;by_cases hlt:j<t.mems.length
  ·have hlt':(j:Int)<t.mems.length:=by omega
   have g1:(t.mems.map memC)[j]?=some (memC t.mems[j]):=by simp [hlt]
   have hw:=q11 (i:=j) (by have:=ht.2.2; omega);have hpl:=plain_v sn S hS t.mems[j].ty t.mems[j].dflt (ht.1.2.2 _ (y8 _)).1 (h64 _ (y8 _));rw [yc hlt,List.find?_cons] at hs;generalize t.mems[j]=m at *
   simp only [memC] at g1;simp only [evA,q03] at hpl;have bad:badM S m=true->q6l S t=some m.id:=fun h=>by unfold q6l; rw [<- hs,h]; rfl
   have good:badM S m=false->(t.mems.drop (j + 1)).find? (badM S)=t.mems.find? (badM S):=fun h=>by rw [<- hs,h]
   have nxt:∀ s':MSt,(∀ t n,t≠9->s'.mem t n=s.mem t n)->(∀ t,t ∉ [2,3,4,9,27,28,29,30,31,32,33,34,35,36,37,38,39,40,41,42,43,44,26]->s'.env t=s.env t)->(s'.env 26).v=.int .i64 ((j + 1:Nat):Int)->badM S m=false->evL allT q01 q1h s' k=some r:=fun s' hm he h26 hb=>by
    refine ih hlt _ ⟨hP s s' hm he hp,?_,?_,?_,?_,?_,h26,good hb⟩
    ·rw [he 1 (by decide)]; exact e1
    ·rw [hm 1 1 (by decide)]; exact m1
    ·rw [he 6 (by decide)]; exact e6
    ·rw [he 24 (by decide)]; exact e24
    ·rw [he 25 (by decide)]; exact e25
   cases hh:m.has with
   | false =>
    simp [q1h,-y0,-y5,-y4,y3,e1,m1,e6,e24,e25,e26,hlt',g1,hh,hw];refine nxt _ ?_ ?_ ?_ (by simp [badM,hh])
    ·intro t n ht; simp [q0z,ht]
    ·intro t ht;simp only [yj,yJ,or_false,not_or] at ht;simp [q3X,ht]
    ·simp
   | true =>
    cases hpv:q5T S m.ty m.dflt with
    | true =>
     rw [hpv] at hpl;simp [q1h,-y0,-y5,-y4,y3,e1,m1,e6,e24,e25,e26,hlt',g1,hh,hpl,hw];refine nxt _ ?_ ?_ ?_ (by simp [badM,hh,hpv])
     ·intro t n ht; simp [q0z,ht]
     ·intro t ht;simp only [yj,yJ,or_false,not_or] at ht;simp [q3X,ht]
     ·simp
    | false =>
     rw [hpv] at hpl;simp [q1h,-y0,-y5,-y4,y3,e1,m1,e6,e24,e25,e26,hlt',g1,hh,hpl];exact hk _ _ (.inr ⟨rfl,m.id,bad (by simp [badM,hh,hpv]),by simp,by simp,by simp⟩)
  ·have hlt':¬ (j:Int)<t.mems.length:=by omega
   simp [q1h,-y0,-y5,-y4,y3,e25,e26,hlt'];rw [yg (by omega)] at hs;refine hk _ _ (.inl ⟨rfl,by unfold q6l; rw [<- hs]; rfl,hP s _ ?_ ?_ hp⟩)
   ·intro t n _; rfl
   ·intro t ht;simp only [yj,yJ,or_false,not_or] at ht;simp [q3X,ht]
 ·simp [hs,h1,m1,h6,h24,h25,h26]
 ·rcases h with ⟨rfl,h1,h2⟩ | ⟨rfl,d,h1,h2,h3,h4⟩
  ·exact hk s h1 h2
  ·exact hr s d h1 h2 h3 h4
theorem dflts_ev (s:Sch) (hs:s.fine) (h64:s.d64):evA 204 [.agg (schC s)] (dfltsA s.types):=by
 have hv:=valid_ev s hs;simp only [evA,schC] at hv;refine q00 (c:=q2V) rfl rfl ?_;unfold dfltsA;by_cases h0:valid s.types=0
 case neg =>
  rw [if_neg h0];simp [q2V,-y0,-y5,-y4,y3,schC,hv,h0]
 have hS:=q8b hs h0;rw [if_pos h0];rw [h0] at hv;simp [q2V,-y0,-y5,-y4,y3,schC,hv];refine q0f s.types.length (fun i σ=>(σ.env 1).v=.ptr 1 1 0/\σ.mem 1 1=some [⟨.sl s.nl (s.types.map typC),.no⟩]/\(σ.env 16).v=.sl s.nl (s.types.map typC)/\(σ.env 17).v=.int .i64 s.types.length/\(σ.env 18).v=.int .i64 i/\q2b s.types (s.types.length - i) i=q2b s.types s.types.length 0)
  (fun e σ=>(e=.exit 0/\q2b s.types s.types.length 0=none)\/(e=.ret/\∃ j d,q2b s.types s.types.length 0=some (j,d)/\(σ.env 2).v=.int .i64 j/\(σ.env 3).v=.int .i64 d/\(σ.env 4).v=.int .i64 1)) (fun i hi σ k h ih hk=>?_) _ _ ?_ (fun e σ h=>?_)
 ·obtain ⟨e1,m1,e16,e17,e18,hd⟩:=h;refine q04 ?_;by_cases hlt:i<s.types.length
  ·have hlt':(i:Int)<s.types.length:=by omega
   have g1:(s.types.map typC)[i]?=some (typC s.types[i]):=by simp [hlt]
   have hw:=q11 (i:=i) (by have:=hs.1; omega);have hfine:=hs.2 _ (y8 hlt);have hd64:=h64 _ (y8 hlt);rw [dflts_step hlt] at hd;generalize s.types[i]=t at *
   simp only [typC] at g1;simp [q3V,-y0,-y5,-y4,y3,e1,m1,e16,e17,e18,hlt',g1];refine dlp s.nl s.types hS t hfine hd64 t.mn i _ (fun σ2=>(σ2.env 1).v=.ptr 1 1 0/\σ2.mem 1 1=some [⟨.sl s.nl (s.types.map typC),.no⟩]/\(σ2.env 16).v=.sl s.nl (s.types.map typC)/\(σ2.env 17).v=.int .i64 s.types.length/\(σ2.env 18).v=.int .i64 i) (fun a b hm he h=>?_) _ (fun σ2 hn h=>?_) (fun σ2 d hn q2 q3 q4=>?_) _ ⟨?_,?_,?_,?_,?_⟩ ?_ ?_ ?_ ?_ ?_ ?_
   ·rw [hm 1 1 (by decide),he 1 (by decide),he 16 (by decide),he 17 (by decide),he 18 (by decide)];exact h
   ·obtain ⟨f1,fm,f16,f17,f18⟩:=h;simp [-y0,-y5,-y4,y3,f18,hw];refine ih hlt _ ⟨?_,?_,?_,?_,?_,by rw [<- hd,hn]⟩ <;> simp [f1,fm,f16,f17]
   ·simp [-y0,-y5,-y4,y3];exact hk _ _ (.inr ⟨rfl,i,d,by rw [<- hd,hn],q2,q3,q4⟩)
   all_goals simp [e1,m1,e16,e17,e18]
  ·have hlt':¬ (i:Int)<s.types.length:=by omega
   simp [q3V,-y0,-y5,-y4,y3,e17,e18,hlt'];exact hk _ _ (.inl ⟨rfl,by rw [<- hd,show s.types.length - i=0 from by omega,q2b]⟩)
 ·simp
 ·rcases h with ⟨rfl,h1⟩ | ⟨rfl,j,d,h1,h2,h3,h4⟩
  ·rw [h1]; simp [-y0,-y5,-y4,y3,dfltA]
  ·rw [h1]; simp [-y0,-y5,-y4,y3,h2,h3,h4,dfltA]
theorem rdlp (sn:Bool) (S:List Typ) (hS:goodS S) (t:Typ) (ht:t.fine) (h64:t.d64) (b:Bool) (i:Nat) (r:RV) (P:MSt->Prop) (hP:∀ s s':MSt,s'.mem=s.mem->(∀ t,t ∉ [2,3,4,8,27,28,29,30,31,32,33,34,35,36,37,38,39,40,41,42,43,44,45,46,47,48,49,50,51,52]->s'.env t=s.env t)->P s->P s') (k:Ex->MSt->Option RV)
  (hk:∀ s',q6l S t=none->P s'->k (.exit 2) s'=some r) (hr:∀ (s':MSt) d,q6l S t=some d->(s'.env 2).v=.int .i64 i->(s'.env 3).v=.int .i64 d->(s'.env 4).v=.int .i64 1->k .ret s'=some r)
  (s:MSt) (hs:P s) (h1:(s.env 1).v=.ptr 1 1 0) (m1:s.mem 1 1=some [⟨.sl sn (S.map typC),.no⟩]) (h6:(s.env 6).v=.int .i64 i) (h7:(s.env 7).v=.sl b (t.mems.map memC)) (h8:(s.env 8).v=.int .i64 0):evL allT q01 q1g s k=some r:=by
 refine q0f t.mems.length (fun j s=>P s/\(s.env 1).v=.ptr 1 1 0/\s.mem 1 1=some [⟨.sl sn (S.map typC),.no⟩]/\(s.env 6).v=.int .i64 i/\(s.env 7).v=.sl b (t.mems.map memC)/\(s.env 8).v=.int .i64 j/\(t.mems.drop j).find? (badM S)=t.mems.find? (badM S))
  (fun e s=>(e=.exit 2/\q6l S t=none/\P s)\/(e=.ret/\∃ d,q6l S t=some d/\(s.env 2).v=.int .i64 i/\(s.env 3).v=.int .i64 d/\(s.env 4).v=.int .i64 1)) (fun j hj s k h ih hk=>?_) _ _ ?_ (fun e s h=>?_)
 ·obtain ⟨hp,e1,m1,e6,e7,e8,hs⟩:=h;refine q04 ?_;by_cases hlt:j<t.mems.length
  ·have hlt':(j:Int)<t.mems.length:=by omega
   have g1:(t.mems.map memC)[j]?=some (memC t.mems[j]):=by simp [hlt]
   have hw:=q11 (i:=j) (by have:=ht.2.2; omega);have hpl:=rplain_v sn S hS t.mems[j].ty t.mems[j].dflt (ht.1.2.2 _ (y8 _)).1 (h64 _ (y8 _));rw [yc hlt,List.find?_cons] at hs;generalize t.mems[j]=m at *
   simp only [memC] at g1;simp only [evA,q03] at hpl;have bad:badM S m=true->q6l S t=some m.id:=fun h=>by unfold q6l; rw [<- hs,h]; rfl
   have good:badM S m=false->(t.mems.drop (j + 1)).find? (badM S)=t.mems.find? (badM S):=fun h=>by rw [<- hs,h]
   have nxt:∀ s':MSt,s'.mem=s.mem->(∀ t,t ∉ [2,3,4,8,27,28,29,30,31,32,33,34,35,36,37,38,39,40,41,42,43,44,45,46,47,48,49,50,51,52]->s'.env t=s.env t)->(s'.env 8).v=.int .i64 ((j + 1:Nat):Int)->badM S m=false->evL allT q01 q1g s' k=some r:=fun s' hm he h26 hb=>by
    refine ih hlt _ ⟨hP s s' hm he hp,?_,?_,?_,?_,h26,good hb⟩
    ·rw [he 1 (by decide)]; exact e1
    ·rw [hm]; exact m1
    ·rw [he 6 (by decide)]; exact e6
    ·rw [he 7 (by decide)]; exact e7
   cases hh:m.has with
   | false =>
    simp [q1g,-y0,-y5,-y4,y3,e1,m1,e6,e7,e8,hlt',g1,hh,hw];refine nxt _ rfl ?_ ?_ (by simp [badM,hh])
    ·intro t ht;simp only [yj,yJ,or_false,not_or] at ht;simp [q3X,ht]
    ·simp
   | true =>
    cases hpv:q5T S m.ty m.dflt with
    | true =>
     rw [hpv] at hpl;simp [q1g,-y0,-y5,-y4,y3,e1,m1,e6,e7,e8,hlt',g1,hh,hpl,hw];refine nxt _ rfl ?_ ?_ (by simp [badM,hh,hpv])
     ·intro t ht;simp only [yj,yJ,or_false,not_or] at ht;simp [q3X,ht]
     ·simp
    | false =>
     rw [hpv] at hpl;simp [q1g,-y0,-y5,-y4,y3,e1,m1,e6,e7,e8,hlt',g1,hh,hpl];exact hk _ _ (.inr ⟨rfl,m.id,bad (by simp [badM,hh,hpv]),by simp,by simp,by simp⟩)
  ·have hlt':¬ (j:Int)<t.mems.length:=by omega
   simp [q1g,-y0,-y5,-y4,y3,e7,e8,hlt'];rw [yg (by omega)] at hs;refine hk _ _ (.inl ⟨rfl,by unfold q6l; rw [<- hs]; rfl,hP s _ rfl ?_ hp⟩);intro t ht;simp only [yj,yJ,or_false,not_or] at ht;simp [q3X,ht]
 ·simp [hs,h1,m1,h6,h7,h8]
 ·rcases h with ⟨rfl,h1,h2⟩ | ⟨rfl,d,h1,h2,h3,h4⟩
  ·exact hk s h1 h2
  ·exact hr s d h1 h2 h3 h4
theorem rdflts_ev (s:Sch) (hs:s.fine) (h64:s.d64):evA 206 [.agg (schC s)] (dfltsA s.types):=by
 have hv:=rvalid_ev s hs;simp only [evA,schC] at hv;refine q00 (c:=q2S) rfl rfl ?_;unfold dfltsA;by_cases h0:valid s.types=0
 case neg =>
  rw [if_neg h0];simp [q2S,-y0,-y5,-y4,y3,schC,hv,h0]
 have hS:=q8b hs h0;rw [if_pos h0];rw [h0] at hv;simp [q2S,-y0,-y5,-y4,y3,schC,hv];refine q0f s.types.length (fun i σ=>(σ.env 1).v=.ptr 1 1 0/\σ.mem 1 1=some [⟨.sl s.nl (s.types.map typC),.no⟩]/\(σ.env 6).v=.int .i64 i/\q2b s.types (s.types.length - i) i=q2b s.types s.types.length 0)
  (fun e σ=>(e=.exit 0/\q2b s.types s.types.length 0=none)\/(e=.ret/\∃ j d,q2b s.types s.types.length 0=some (j,d)/\(σ.env 2).v=.int .i64 j/\(σ.env 3).v=.int .i64 d/\(σ.env 4).v=.int .i64 1)) (fun i hi σ k h ih hk=>?_) _ _ ?_ (fun e σ h=>?_)
 ·obtain ⟨e1,m1,e6,hd⟩:=h;refine q04 ?_;by_cases hlt:i<s.types.length
  ·have hlt':(i:Int)<s.types.length:=by omega
   have g1:(s.types.map typC)[i]?=some (typC s.types[i]):=by simp [hlt]
   have hw:=q11 (i:=i) (by have:=hs.1; omega);have hfine:=hs.2 _ (y8 hlt);have hd64:=h64 _ (y8 hlt);rw [dflts_step hlt] at hd;generalize s.types[i]=t at *
   simp only [typC] at g1;simp [q3T,-y0,-y5,-y4,y3,e1,m1,e6,hlt',g1];refine rdlp s.nl s.types hS t hfine hd64 t.mn i _ (fun σ2=>(σ2.env 1).v=.ptr 1 1 0/\σ2.mem 1 1=some [⟨.sl s.nl (s.types.map typC),.no⟩]/\(σ2.env 6).v=.int .i64 i) (fun a b hm he h=>?_) _ (fun σ2 hn h=>?_) (fun σ2 d hn q2 q3 q4=>?_) _ ⟨?_,?_,?_⟩ ?_ ?_ ?_ ?_ ?_
   ·rw [hm,he 1 (by decide),he 6 (by decide)];exact h
   ·obtain ⟨f1,fm,f6⟩:=h;simp [-y0,-y5,-y4,y3,f6,hw];refine ih hlt _ ⟨?_,?_,?_,by rw [<- hd,hn]⟩ <;> simp [f1,fm]
   ·simp [-y0,-y5,-y4,y3];exact hk _ _ (.inr ⟨rfl,i,d,by rw [<- hd,hn],q2,q3,q4⟩)
   all_goals simp [e1,m1,e6]
  ·have hlt':¬ (i:Int)<s.types.length:=by omega
   simp [q3T,-y0,-y5,-y4,y3,e1,m1,e6,hlt'];exact hk _ _ (.inl ⟨rfl,by rw [<- hd,show s.types.length - i=0 from by omega,q2b]⟩)
 ·simp
 ·rcases h with ⟨rfl,h1⟩ | ⟨rfl,j,d,h1,h2,h3,h4⟩
  ·rw [h1]; simp [-y0,-y5,-y4,y3,dfltA]
  ·rw [h1]; simp [-y0,-y5,-y4,y3,h2,h3,h4,dfltA]
noncomputable def q2W (S:List Typ):Int:=if valid S=0 then (match q2b S S.length 0 with
 | some _=>1
 | none=>0) else valid S
theorem dfltsA_ne {S:List Typ} (h:valid S=0):∃ i d,dfltsA S=.tup [.int .i64 i,.int .i64 d,.int .i64 (q2W S)]:=by
 unfold dfltsA q2W;rw [if_pos h,if_pos h];cases q2b S S.length 0 with
 | none=>exact ⟨_,_,rfl⟩
 | some p=>exact ⟨_,_,rfl⟩
theorem right_ev (s:Sch) (hs:s.fine) (h64:s.d64):evA 173 [.agg (schC s)] (.int .i64 (q2W s.types)):=by
 have hv:=valid_ev s hs;have hd:=dflts_ev s hs h64;refine q00 (c:=q3b) rfl rfl ?_;simp only [evA,schC] at hv hd;by_cases h0:valid s.types=0
 ·obtain ⟨i,d,hA⟩:=dfltsA_ne h0;rw [hA] at hd;rw [h0] at hv;simp [q3b,-y0,-y5,-y4,y3,schC,hv,hd]
 ·unfold q2W;rw [if_neg h0];simp [q3b,-y0,-y5,-y4,y3,schC,hv,h0]
theorem rerror_ev (s:Sch) (hs:s.fine) (h64:s.d64):evA 175 [.agg (schC s)] (.int .i64 (q2W s.types)):=by
 have hv:=rvalid_ev s hs;have hd:=rdflts_ev s hs h64;refine q00 (c:=q4d) rfl rfl ?_;simp only [evA,schC] at hv hd;by_cases h0:valid s.types=0
 ·obtain ⟨i,d,hA⟩:=dfltsA_ne h0;rw [hA] at hd;rw [h0] at hv;simp [q4d,-y0,-y5,-y4,y3,schC,hv,hd]
 ·unfold q2W;rw [if_neg h0];simp [q4d,-y0,-y5,-y4,y3,schC,hv,h0]
section
abbrev Vec:=Nat->Int
def inR (N:Nat) (v:Vec):Prop:=∀ j,j<N->0<=v j/\v j<=2
structure Grows (N:Nat) (F:Nat->Vec->Int):Prop where
 mono:∀ u v,inR N u->inR N v->(∀ j,j<N->u j<=v j)->∀ i,i<N->F i u<=F i v
 rng:∀ u,inR N u->∀ i,i<N->0<=F i u/\F i u<=2
def upd (F:Nat->Vec->Int) (v:Vec) (i:Nat):Vec:=fun j=>if j=i then F i v else v j
structure Low (N:Nat) (F:Nat->Vec->Int) (v:Vec):Prop where
 rng:inR N v
 post:∀ j,j<N->v j<=F j v
 least:∀ m,inR N m->(∀ j,j<N->F j m<=m j)->∀ j,j<N->v j<=m j
def sumV:Nat->Vec->Int
 | 0,_=>0
 | n + 1,v=>sumV n v + v n
theorem sumV_le (v:Vec):∀ N,inR N v->sumV N v<=2 * N
 | 0,_=>by simp [sumV]
 | n + 1,h=>by
  have:=sumV_le v n fun j hj=>h j (by omega)
  have:=h n (by omega);simp only [sumV];omega
theorem sumV_0 (v:Vec):∀ N,inR N v->0<=sumV N v
 | 0,_=>by simp [sumV]
 | n + 1,h=>by
  have:=sumV_0 v n fun j hj=>h j (by omega)
  have:=h n (by omega);simp only [sumV];omega
theorem sumV_same (v w:Vec):∀ N,(∀ j,j<N->v j=w j)->sumV N v=sumV N w
 | 0,_=>rfl
 | n + 1,h=>by simp only [sumV,sumV_same v w n fun j hj=>h j (by omega),h n (by omega)]
theorem q9p (F:Nat->Vec->Int) (v:Vec) (i:Nat):∀ N,i<N->sumV N (upd F v i)=sumV N v + (F i v - v i)
 | 0,h=>by omega
 | n + 1,h=>by
  simp only [sumV];by_cases e:i=n
  ·subst e;rw [sumV_same (upd F v i) v i fun j hj=>by simp [upd,show ¬ j=i from by omega]];simp only [upd,if_true];omega
  ·rw [q9p F v i n (by omega)];have:upd F v i n=v n:=by simp [upd,show ¬ n=i from fun e'=>e e'.symm]
   omega
section
variable {N:Nat} {F:Nat->Vec->Int}
theorem Low.zero (G:Grows N F):Low N F (fun _=>0):=by
 refine ⟨fun j hj=>by omega,fun j hj=>(G.rng _ (fun j hj=>by omega) j hj).1,fun m hm _ j hj=>(hm j hj).1⟩
theorem upd_ge {v:Vec} (h:Low N F v) {i:Nat} (hi:i<N) (j:Nat):v j<=upd F v i j:=by
 unfold upd;split
 ·rename_i e; subst e; exact h.post _ hi
 ·exact Int.le_refl _
theorem upd_rng (G:Grows N F) {v:Vec} (h:Low N F v) {i:Nat} (hi:i<N):inR N (upd F v i):=fun j hj=>by
 unfold upd;split
 ·exact G.rng v h.rng i hi
 ·exact h.rng j hj
theorem Low.upd (G:Grows N F) {v:Vec} (h:Low N F v) {i:Nat} (hi:i<N):Low N F (upd F v i):=by
 have hr:=upd_rng G h hi;refine ⟨hr,fun j hj=>?_,fun m hm hp j hj=>?_⟩
 ·have hm:=G.mono v (Go.Proofs.YtbnlmgncbgaepaaGreat.upd F v i) h.rng hr (fun j _=>upd_ge h hi j) j hj;unfold Go.Proofs.YtbnlmgncbgaepaaGreat.upd at hm ⊢;by_cases e:j=i
  ·subst e; simp only [if_true]; exact hm
  ·simp only [if_neg e]; have:=h.post j hj; omega
 ·unfold Go.Proofs.YtbnlmgncbgaepaaGreat.upd;split
  ·rename_i e; subst e;have:=G.mono v m h.rng hm (h.least m hm hp) j hj;have:=hp j hj;omega
  ·exact h.least m hm hp j hj
theorem upd_same {v:Vec} {i:Nat} (h:F i v=v i):upd F v i=v:=by
 funext j;unfold upd;split
 ·rename_i e; subst e; exact h
 ·rfl
end
end
def vecC (N:Nat) (v:Vec):List (List AV):=(List.range N).map fun i=>[AV.int .i64 (v i)]
theorem qb9 (N:Nat) (v:Vec):(vecC N v).length=N:=by simp [vecC]
theorem qb8 (N:Nat) (v:Vec):q1f 1 (vecC N v)=true:=q1B _ _ _ fun _=>rfl
theorem vecC_free (N:Nat) (v:Vec):q2t (vecC N v)=true:=q73 _ _ fun _=>rfl
theorem q2O {N:Nat} (v:Vec) {t:Int} (h:0<=t/\t<N):(vecC N v)[t.toNat]?=some [.int .i64 (v t.toNat)]:=by
 have:t.toNat<N:=by omega
 simp [vecC,this]
theorem vecC_set {N:Nat} (v w:Vec) {i:Nat} {x:Int} (hi:w i=x) (h:∀ j,j≠i->w j=v j):(vecC N v).set i [.int .i64 x]=vecC N w:=by
 apply List.ext_getElem?;intro j;by_cases e:j=i
 ·subst e;by_cases hj:j<N
  ·simp [vecC,hj,hi]
  ·simp [vecC,hj]
 ·rw [List.getElem?_set_ne (fun e'=>e e'.symm)];by_cases hj:j<N
  ·simp [vecC,hj,h j e]
  ·simp [vecC,hj]
def recF (v:Vec):List Mem->Int->Int
 | [],c=>c
 | m :: r,c=>recF v r (min 2 (c * v m.ty.toNat))
def sumF (v:Vec):List Mem->Int->Int
 | [],c=>c
 | m :: r,c=>sumF v r (c + v m.ty.toNat)
def capF (v:Vec):List Mem->Int->Int
 | [],c=>c
 | m :: r,c=>capF v r (min 2 (c + v m.ty.toNat))
def cntP (x:Typ) (v:Vec):Int :=
 if x.kind=2 then (if x.low=x.high then 1 else 2)
 else if x.kind=3 then (if x.max=0 then 1 else 2)
 else if x.kind=4 then x.syms.length
 else if x.kind=5 then recF v x.mems 1
 else if x.kind=6 then sumF v x.mems 0
 else if x.kind=7 then (if x.max=0\/v x.elem.toNat=0 then 1 else 2)
 else if x.kind=8 then (if x.max=0\/v x.elem.toNat=0\/v x.key.toNat=0 then 1 else 2)
 else if x.kind=9 then 1 + v x.elem.toNat
 else 2
def cntR (x:Typ) (v:Vec):Int :=
 if x.kind=2 then (if x.low=x.high then 1 else 2)
 else if x.kind=3 then (if x.max=0 then 1 else 2)
 else if x.kind=4 then min 2 x.syms.length
 else if x.kind=5 then recF v x.mems 1
 else if x.kind=6 then capF v x.mems 0
 else if x.kind=7\/x.kind=8 then (if x.max=0\/v x.elem.toNat=0 then 1 else 2)
 else if x.kind=9 then min 2 (1 + v x.elem.toNat)
 else 2
structure q2e (N:Nat) (x:Typ):Prop where
 mems:∀ m∈x.mems,0<=m.ty/\m.ty<N
 few:x.mems.length<=16
 elem:7<=x.kind->0<=x.elem/\x.elem<N
 key:x.kind=8->0<=x.key/\x.key<N
theorem recF_rng {N:Nat} {v:Vec} (hv:inR N v):∀ (l:List Mem) (c:Int),(∀ m∈l,0<=m.ty/\m.ty<N)->0<=c/\c<=2->0<=recF v l c/\recF v l c<=2
 | [],c,_,hc=>hc
 | m :: r,c,hm,hc=>by
  have h1:=hm m yl;have h2:=hv m.ty.toNat (by omega);refine recF_rng hv r _ (fun m' h=>hm m' (yp _ h)) ?_;have:0<=c * v m.ty.toNat:=Int.mul_nonneg hc.1 h2.1;omega
theorem capF_rng {N:Nat} {v:Vec} (hv:inR N v):∀ (l:List Mem) (c:Int),(∀ m∈l,0<=m.ty/\m.ty<N)->0<=c/\c<=2->0<=capF v l c/\capF v l c<=2
 | [],c,_,hc=>hc
 | m :: r,c,hm,hc=>by
  have h1:=hm m yl;have h2:=hv m.ty.toNat (by omega);refine capF_rng hv r _ (fun m' h=>hm m' (yp _ h)) ?_;omega
theorem cap_sum {N:Nat} {v:Vec} (hv:inR N v):∀ (l:List Mem) (c:Int),(∀ m∈l,0<=m.ty/\m.ty<N)->capF v l (min 2 c)=min 2 (sumF v l c)
 | [],c,_=>rfl
 | m :: r,c,hm=>by
  have h1:=hm m yl;have h2:=hv m.ty.toNat (by omega);rw [capF,sumF,<- cap_sum hv r _ (fun m' h=>hm m' (yp _ h))];congr 1;omega
theorem mul_mono {a b c d:Int} (h1:0<=a) (h2:a<=b) (h3:0<=c) (h4:c<=d):a * c<=b * d:=Int.mul_le_mul h2 h4 h3 (by omega)
theorem recF_mono {N:Nat} {u v:Vec} (hu:inR N u) (hv:inR N v) (huv:∀ j,j<N->u j<=v j):∀ (l:List Mem) (c d:Int),(∀ m∈l,0<=m.ty/\m.ty<N)->0<=c->c<=d->d<=2->recF u l c<=recF v l d
 | [],c,d,_,_,h,_=>h
 | m :: r,c,d,hm,h0,h,hd=>by
  have h1:=hm m yl;have h2:=hu m.ty.toNat (by omega);have h4:=huv m.ty.toNat (by omega);have h5:=mul_mono h0 h h2.1 h4;have h6:0<=c * u m.ty.toNat:=Int.mul_nonneg h0 h2.1;exact recF_mono hu hv huv r _ _ (fun m' h=>hm m' (yp _ h)) (by omega) (by omega) (by omega)
theorem capF_mono {N:Nat} {u v:Vec} (hu:inR N u) (hv:inR N v) (huv:∀ j,j<N->u j<=v j):∀ (l:List Mem) (c d:Int),(∀ m∈l,0<=m.ty/\m.ty<N)->c<=d->capF u l c<=capF v l d
 | [],c,d,_,h=>h
 | m :: r,c,d,hm,h=>by
  have h1:=hm m yl;have h4:=huv m.ty.toNat (by omega);exact capF_mono hu hv huv r _ _ (fun m' h=>hm m' (yp _ h)) (by omega)
theorem cntR_rng {N:Nat} {v:Vec} (hv:inR N v) {x:Typ} (hx:q2e N x):0<=cntR x v/\cntR x v<=2:=by
 unfold cntR
 repeat' split
 all_goals first
  | omega
  | exact recF_rng hv _ _ hx.mems (by omega)
  | exact capF_rng hv _ _ hx.mems (by omega)
  | (have:=hx.elem (by omega); have:=hv x.elem.toNat (by omega); omega)
theorem q92 {N:Nat} {v:Vec} (hv:inR N v) {x:Typ} (hx:q2e N x) (hk:x.kind≠8):min 2 (cntP x v)=cntR x v:=by
 unfold cntR cntP;by_cases h5:x.kind=5
 ·have:=recF_rng hv x.mems 1 hx.mems (by omega);simp [h5];omega
 ·by_cases h6:x.kind=6
  ·have:=cap_sum hv x.mems 0 hx.mems;simp [h6];exact this.symm
  ·by_cases h7:x.kind=7
   ·simp [h7]; split <;> rfl
   ·simp only [h5,h6,h7,hk,if_false,or_self]
    repeat' split
    all_goals rfl
theorem cntP_8 {v:Vec} {x:Typ} (hk:x.kind=8):min 2 (cntP x v)=if x.max=0\/v x.elem.toNat=0\/v x.key.toNat=0 then 1 else 2:=by
 simp [cntP,hk];split <;> rfl
theorem cntR_8 {v:Vec} {x:Typ} (hk:x.kind=8):cntR x v=if x.max=0\/v x.elem.toNat=0 then 1 else 2:=by simp [cntR,hk]
theorem cntR_mono {N:Nat} {u v:Vec} (hu:inR N u) (hv:inR N v) (huv:∀ j,j<N->u j<=v j) {x:Typ} (hx:q2e N x):cntR x u<=cntR x v:=by
 have he:7<=x.kind->0<=u x.elem.toNat/\u x.elem.toNat<=v x.elem.toNat:=fun h=>by
  have:=hx.elem h;exact ⟨(hu _ (by omega)).1,huv _ (by omega)⟩
 unfold cntR;by_cases h5:x.kind=5
 ·simp [h5]; exact recF_mono hu hv huv _ _ _ hx.mems (by omega) (by omega) (by omega)
 ·by_cases h6:x.kind=6
  ·simp [h6]; exact capF_mono hu hv huv _ _ _ hx.mems (by omega)
  ·by_cases h7:x.kind=7\/x.kind=8
   ·have:=he (by omega);have h2:¬ x.kind=2:=by omega
    have h3:¬ x.kind=3:=by omega
    have h4:¬ x.kind=4:=by omega
    simp only [h2,h3,h4,h5,h6,h7,if_true,if_false];split <;> split <;> omega
   ·by_cases h9:x.kind=9
    ·have:=he (by omega);simp [h9]; omega
    ·simp only [h5,h6,h7,h9,if_false]
     repeat' split
     all_goals omega
def FP (S:List Typ) (i:Nat) (v:Vec):Int:=match S[i]? with
 | some x=>min 2 (cntP x v)
 | none=>0
def FR (S:List Typ) (i:Nat) (v:Vec):Int:=match S[i]? with
 | some x=>cntR x v
 | none=>0
theorem FR_grows {S:List Typ} (hS:∀ x∈S,q2e S.length x):Grows S.length (FR S):=by
 refine ⟨fun u v hu hv huv i hi=>?_,fun u hu i hi=>?_⟩
 ·unfold FR;rw [y7 hi];exact cntR_mono hu hv huv (hS _ (y8 _))
 ·unfold FR;rw [y7 hi];exact cntR_rng hu (hS _ (y8 _))
theorem FP_rng {N:Nat} {v:Vec} (hv:inR N v) {x:Typ} (hx:q2e N x):0<=min 2 (cntP x v)/\min 2 (cntP x v)<=2:=by
 by_cases h8:x.kind=8
 ·rw [cntP_8 h8]; split <;> omega
 ·rw [q92 hv hx h8]; exact cntR_rng hv hx
theorem FP_grows {S:List Typ} (hS:∀ x∈S,q2e S.length x):Grows S.length (FP S):=by
 refine ⟨fun u v hu hv huv i hi=>?_,fun u hu i hi=>?_⟩
 ·unfold FP;rw [y7 hi];have hx:=hS _ (y8 hi);simp only;by_cases h8:S[i].kind=8
  ·rw [cntP_8 h8,cntP_8 h8];have h1:=hx.elem (by omega);have h2:=hx.key h8;have:=hu S[i].elem.toNat (by omega);have:=huv S[i].elem.toNat (by omega);have:=hu S[i].key.toNat (by omega);have:=huv S[i].key.toNat (by omega);split <;> split <;> omega
  ·rw [q92 hu hx h8,q92 hv hx h8];exact cntR_mono hu hv huv hx
 ·unfold FP;rw [y7 hi];exact FP_rng hu (hS _ (y8 _))
theorem FPR {S:List Typ} (hS:∀ x∈S,q2e S.length x) (hk:∀ x∈S,x.kind=8->∀ v,inR S.length v->1<=FP S x.key.toNat v) {v w:Vec} (hv:Low S.length (FP S) v) (hvf:∀ j,j<S.length->FP S j v=v j) (hw:Low S.length (FR S) w) (hwf:∀ j,j<S.length->FR S j w=w j):∀ j,j<S.length->v j=w j:=by
 have e:∀ j,j<S.length->FR S j v=FP S j v:=fun j hj=>by
  unfold FR FP;rw [y7 hj];have hx:=hS _ (y8 hj);simp only;by_cases h8:S[j].kind=8
  ·rw [cntP_8 h8,cntR_8 h8];have h2:=hx.key h8;have:=hk _ (y8 hj) h8 v hv.rng;rw [hvf _ (by omega)] at this;have:¬ v S[j].key.toNat=0:=by omega
   simp [this]
  ·exact (q92 hv.rng hx h8).symm
 have hle:∀ u,inR S.length u->∀ j,j<S.length->FP S j u<=FR S j u:=fun u hu j hj=>by
  unfold FR FP;rw [y7 hj];have hx:=hS _ (y8 hj);simp only;by_cases h8:S[j].kind=8
  ·rw [cntP_8 h8,cntR_8 h8]; split <;> split <;> omega
  ·rw [q92 hu hx h8]; exact Int.le_refl _
 have h1:∀ j,j<S.length->w j<=v j:=hw.least v hv.rng fun j hj=>by rw [e j hj,hvf j hj]; exact Int.le_refl _
 have h2:∀ j,j<S.length->v j<=w j:=hv.least w hw.rng fun j hj=>by rw [<- hwf j hj]; exact hle w hw.rng j hj
 intro j hj;have:=h1 j hj;have:=h2 j hj;omega
theorem cr_ev1 {N:Nat} {v:Vec} (hv:inR N v) {x:Typ} (hx:q2e N x) (h:x.kind=1):evA 207 [.agg (typC x),.bl (vecC N v)] (.int .i64 (cntR x v)):=by
 refine q00 (c:=q0h) rfl rfl ?_;simp [q0h,-y0,-y5,-y4,y3,typC,h,cntR]
theorem cr_ev2 {N:Nat} {v:Vec} (hv:inR N v) {x:Typ} (hx:q2e N x) (h:x.kind=2):evA 207 [.agg (typC x),.bl (vecC N v)] (.int .i64 (cntR x v)):=by
 refine q00 (c:=q0h) rfl rfl ?_;by_cases c1:x.low=x.high
 ·simp [q0h,-y0,-y5,-y4,y3,typC,h,cntR,c1]
 ·simp [q0h,-y0,-y5,-y4,y3,typC,h,cntR,c1]
theorem cr_ev3 {N:Nat} {v:Vec} (hv:inR N v) {x:Typ} (hx:q2e N x) (h:x.kind=3):evA 207 [.agg (typC x),.bl (vecC N v)] (.int .i64 (cntR x v)):=by
 refine q00 (c:=q0h) rfl rfl ?_;by_cases c1:x.max=0
 ·simp [q0h,-y0,-y5,-y4,y3,typC,h,cntR,c1]
 ·simp [q0h,-y0,-y5,-y4,y3,typC,h,cntR,c1]
theorem cr_ev4 {N:Nat} {v:Vec} (hv:inR N v) {x:Typ} (hx:q2e N x) (h:x.kind=4):evA 207 [.agg (typC x),.bl (vecC N v)] (.int .i64 (cntR x v)):=by
 refine q00 (c:=q0h) rfl rfl ?_;simp [q0h,-y0,-y5,-y4,y3,typC,h,cntR]
theorem cr_ev7 {N:Nat} {v:Vec} (hv:inR N v) {x:Typ} (hx:q2e N x) (h:x.kind=7):evA 207 [.agg (typC x),.bl (vecC N v)] (.int .i64 (cntR x v)):=by
 refine q00 (c:=q0h) rfl rfl ?_;have hel:=hx.elem (by omega);have gel:=q2O v hel;have he0:=hel.1;by_cases c1:x.max=0
 ·simp [q0h,-y0,-y5,-y4,y3,typC,h,cntR,c1]
 ·by_cases c2:v x.elem.toNat=0
  ·simp [q0h,-y0,-y5,-y4,y3,typC,h,cntR,c1,c2,gel,he0]
  ·simp [q0h,-y0,-y5,-y4,y3,typC,h,cntR,c1,c2,gel,he0]
theorem cr_ev8 {N:Nat} {v:Vec} (hv:inR N v) {x:Typ} (hx:q2e N x) (h:x.kind=8):evA 207 [.agg (typC x),.bl (vecC N v)] (.int .i64 (cntR x v)):=by
 refine q00 (c:=q0h) rfl rfl ?_;have hel:=hx.elem (by omega);have gel:=q2O v hel;have he0:=hel.1;by_cases c1:x.max=0
 ·simp [q0h,-y0,-y5,-y4,y3,typC,h,cntR,c1]
 ·by_cases c2:v x.elem.toNat=0
  ·simp [q0h,-y0,-y5,-y4,y3,typC,h,cntR,c1,c2,gel,he0]
  ·simp [q0h,-y0,-y5,-y4,y3,typC,h,cntR,c1,c2,gel,he0]
theorem cr_ev9 {N:Nat} {v:Vec} (hv:inR N v) {x:Typ} (hx:q2e N x) (h:x.kind=9):evA 207 [.agg (typC x),.bl (vecC N v)] (.int .i64 (cntR x v)):=by
 refine q00 (c:=q0h) rfl rfl ?_;have hel:=hx.elem (by omega);have gel:=q2O v hel;have he0:=hel.1;have ve:=hv x.elem.toNat (by omega);have hw:IntKind.i64.wrap (1 + v x.elem.toNat)=1 + v x.elem.toNat:=IntWalk.i64_in _ (by omega);simp [q0h,-y0,-y5,-y4,y3,typC,h,cntR,gel,he0,hw]
theorem cr_ev5 {N:Nat} {v:Vec} (hv:inR N v) {x:Typ} (hx:q2e N x) (h:x.kind=5):evA 207 [.agg (typC x),.bl (vecC N v)] (.int .i64 (cntR x v)):=by
 refine q00 (c:=q0h) rfl rfl ?_;simp [q0h,-y0,-y5,-y4,y3,typC,h,cntR];refine q0f x.mems.length (fun i s=>(s.env 1).v=.bl (vecC N v)/\(s.env 2).v=.ptr 2 1 0/\s.mem 2 1=some (q0a x)/\(s.env 6).v=.int .i64 i/\∃ a,(s.env 5).v=.int .i64 a/\recF v (x.mems.drop i) a=recF v x.mems 1/\0<=a/\a<=2)
  (fun e s=>e=.exit 1/\(s.env 5).v=.int .i64 (recF v x.mems 1)) (fun i hi s k h' ih hk=>?_) _ _ ?_ (fun e s h'=>?_)
 ·obtain ⟨e1,e2,e3,e4,a,ea,hs,hb⟩:=h';refine q04 ?_;by_cases hlt:i<x.mems.length
  ·have hlt':(i:Int)<x.mems.length:=by omega
   have g1:(x.mems.map memC)[i]?=some (memC x.mems[i]):=by simp [hlt]
   have hw:=q11 (i:=i) (by have:=hx.few; omega);have hmt:=hx.mems x.mems[i] (y8 _);rw [yc hlt,recF] at hs;generalize x.mems[i]=m at *
   have hvm:=hv m.ty.toNat (by omega);have gm:=q2O v hmt;have hm0:=hmt.1;have hm2:=Int.mul_nonneg hb.1 hvm.1;have hm3:a * v m.ty.toNat<=2 * 2:=mul_mono hb.1 hb.2 hvm.1 hvm.2;have hw2:IntKind.i64.wrap (a * v m.ty.toNat)=a * v m.ty.toNat:=IntWalk.i64_in _ (by omega);simp only [memC] at g1;simp [q54,-y0,-y5,-y4,y3,e1,e2,e3,e4,ea,hlt',g1,gm,hm0,hw,hw2];refine ih hlt _ ⟨?_,?_,?_,?_,min 2 (a * v m.ty.toNat),?_,hs,by omega⟩ <;> simp [e1,e2,e3]
  ·have hlt':¬ (i:Int)<x.mems.length:=by omega
   simp [q54,-y0,-y5,-y4,y3,e1,e2,e3,e4,hlt'];rw [yg (by omega),recF] at hs;exact hk _ _ ⟨rfl,by simp [ea,hs]⟩
 ·simp [typC,h]
 ·obtain ⟨rfl,ea⟩:=h';simp [-y0,-y5,-y4,y3,ea]
theorem cr_ev6 {N:Nat} {v:Vec} (hv:inR N v) {x:Typ} (hx:q2e N x) (h:x.kind=6):evA 207 [.agg (typC x),.bl (vecC N v)] (.int .i64 (cntR x v)):=by
 refine q00 (c:=q0h) rfl rfl ?_;simp [q0h,-y0,-y5,-y4,y3,typC,h,cntR];refine q0f x.mems.length (fun i s=>(s.env 1).v=.bl (vecC N v)/\(s.env 2).v=.ptr 2 1 0/\s.mem 2 1=some (q0a x)/\(s.env 8).v=.int .i64 i/\∃ a,(s.env 7).v=.int .i64 a/\capF v (x.mems.drop i) a=capF v x.mems 0/\0<=a/\a<=2)
  (fun e s=>e=.exit 3/\(s.env 7).v=.int .i64 (capF v x.mems 0)) (fun i hi s k h' ih hk=>?_) _ _ ?_ (fun e s h'=>?_)
 ·obtain ⟨e1,e2,e3,e4,a,ea,hs,hb⟩:=h';refine q04 ?_;by_cases hlt:i<x.mems.length
  ·have hlt':(i:Int)<x.mems.length:=by omega
   have g1:(x.mems.map memC)[i]?=some (memC x.mems[i]):=by simp [hlt]
   have hw:=q11 (i:=i) (by have:=hx.few; omega);have hmt:=hx.mems x.mems[i] (y8 _);rw [yc hlt,capF] at hs;generalize x.mems[i]=m at *
   have hvm:=hv m.ty.toNat (by omega);have gm:=q2O v hmt;have hm0:=hmt.1;have hw2:IntKind.i64.wrap (a + v m.ty.toNat)=a + v m.ty.toNat:=IntWalk.i64_in _ (by omega);simp only [memC] at g1;simp [q53,-y0,-y5,-y4,y3,e1,e2,e3,e4,ea,hlt',g1,gm,hm0,hw,hw2];refine ih hlt _ ⟨?_,?_,?_,?_,min 2 (a + v m.ty.toNat),?_,hs,by omega⟩ <;> simp [e1,e2,e3]
  ·have hlt':¬ (i:Int)<x.mems.length:=by omega
   simp [q53,-y0,-y5,-y4,y3,e1,e2,e3,e4,hlt'];rw [yg (by omega),capF] at hs;exact hk _ _ ⟨rfl,by simp [ea,hs]⟩
 ·simp [typC,h]
 ·obtain ⟨rfl,ea⟩:=h';simp [-y0,-y5,-y4,y3,ea]
theorem cr_ev {N:Nat} {v:Vec} (hv:inR N v) {x:Typ} (hx:q2e N x) (hk:1<=x.kind/\x.kind<=9):evA 207 [.agg (typC x),.bl (vecC N v)] (.int .i64 (cntR x v)):=by
 rcases kinds x.kind with e | e | e | e | e | e | e | e | e | e
 ·exact cr_ev1 hv hx e
 ·exact cr_ev2 hv hx e
 ·exact cr_ev3 hv hx e
 ·exact cr_ev4 hv hx e
 ·exact cr_ev5 hv hx e
 ·exact cr_ev6 hv hx e
 ·exact cr_ev7 hv hx e
 ·exact cr_ev8 hv hx e
 ·exact cr_ev9 hv hx e
 ·exact absurd hk e
theorem cp_ev1 {N:Nat} {v:Vec} (hv:inR N v) {x:Typ} (hx:q2e N x) (h:x.kind=1):evA 205 [.agg (typC x),.bl (vecC N v)] (.int .i64 (cntP x v)):=by
 refine q00 (c:=q09) rfl rfl ?_;simp [q09,-y0,-y5,-y4,y3,typC,h,cntP]
theorem cp_ev2 {N:Nat} {v:Vec} (hv:inR N v) {x:Typ} (hx:q2e N x) (h:x.kind=2):evA 205 [.agg (typC x),.bl (vecC N v)] (.int .i64 (cntP x v)):=by
 refine q00 (c:=q09) rfl rfl ?_;by_cases c1:x.low=x.high
 ·simp [q09,-y0,-y5,-y4,y3,typC,h,cntP,c1]
 ·simp [q09,-y0,-y5,-y4,y3,typC,h,cntP,c1]
theorem cp_ev3 {N:Nat} {v:Vec} (hv:inR N v) {x:Typ} (hx:q2e N x) (h:x.kind=3):evA 205 [.agg (typC x),.bl (vecC N v)] (.int .i64 (cntP x v)):=by
 refine q00 (c:=q09) rfl rfl ?_;by_cases c1:x.max=0
 ·simp [q09,-y0,-y5,-y4,y3,typC,h,cntP,c1]
 ·simp [q09,-y0,-y5,-y4,y3,typC,h,cntP,c1]
theorem cp_ev4 {N:Nat} {v:Vec} (hv:inR N v) {x:Typ} (hx:q2e N x) (h:x.kind=4):evA 205 [.agg (typC x),.bl (vecC N v)] (.int .i64 (cntP x v)):=by
 refine q00 (c:=q09) rfl rfl ?_;simp [q09,-y0,-y5,-y4,y3,typC,h,cntP]
theorem cp_ev7 {N:Nat} {v:Vec} (hv:inR N v) {x:Typ} (hx:q2e N x) (h:x.kind=7):evA 205 [.agg (typC x),.bl (vecC N v)] (.int .i64 (cntP x v)):=by
 refine q00 (c:=q09) rfl rfl ?_;have hel:=hx.elem (by omega);have gel:=q2O v hel;have he0:=hel.1;by_cases c1:x.max=0
 ·simp [q09,-y0,-y5,-y4,y3,typC,h,cntP,c1]
 ·by_cases c2:v x.elem.toNat=0
  ·simp [q09,-y0,-y5,-y4,y3,typC,h,cntP,c1,c2,gel,he0]
  ·simp [q09,-y0,-y5,-y4,y3,typC,h,cntP,c1,c2,gel,he0]
theorem cp_ev8 {N:Nat} {v:Vec} (hv:inR N v) {x:Typ} (hx:q2e N x) (h:x.kind=8):evA 205 [.agg (typC x),.bl (vecC N v)] (.int .i64 (cntP x v)):=by
 refine q00 (c:=q09) rfl rfl ?_;have hel:=hx.elem (by omega);have gel:=q2O v hel;have he0:=hel.1;have hkl:=hx.key h;have gkl:=q2O v hkl;have hk0:=hkl.1;by_cases c1:x.max=0
 ·simp [q09,-y0,-y5,-y4,y3,typC,h,cntP,c1]
 ·by_cases c2:v x.elem.toNat=0
  ·simp [q09,-y0,-y5,-y4,y3,typC,h,cntP,c1,c2,gel,he0]
  ·by_cases c3:v x.key.toNat=0
   ·simp [q09,-y0,-y5,-y4,y3,typC,h,cntP,c1,c2,c3,gel,he0,gkl,hk0]
   ·simp [q09,-y0,-y5,-y4,y3,typC,h,cntP,c1,c2,c3,gel,he0,gkl,hk0]
theorem cp_ev9 {N:Nat} {v:Vec} (hv:inR N v) {x:Typ} (hx:q2e N x) (h:x.kind=9):evA 205 [.agg (typC x),.bl (vecC N v)] (.int .i64 (cntP x v)):=by
 refine q00 (c:=q09) rfl rfl ?_;have hel:=hx.elem (by omega);have gel:=q2O v hel;have he0:=hel.1;have ve:=hv x.elem.toNat (by omega);have hw:IntKind.i64.wrap (1 + v x.elem.toNat)=1 + v x.elem.toNat:=IntWalk.i64_in _ (by omega);simp [q09,-y0,-y5,-y4,y3,typC,h,cntP,gel,he0,hw]
theorem cp_ev5 {N:Nat} {v:Vec} (hv:inR N v) {x:Typ} (hx:q2e N x) (h:x.kind=5):evA 205 [.agg (typC x),.bl (vecC N v)] (.int .i64 (cntP x v)):=by
 refine q00 (c:=q09) rfl rfl ?_;simp [q09,-y0,-y5,-y4,y3,typC,h,cntP];refine q0f x.mems.length (fun i s=>(s.env 1).v=.bl (vecC N v)/\(s.env 33).v=.sl x.mn (x.mems.map memC)/\(s.env 34).v=.int .i64 x.mems.length/\(s.env 35).v=.int .i64 i/\∃ a,(s.env 5).v=.int .i64 a/\recF v (x.mems.drop i) a=recF v x.mems 1/\0<=a/\a<=2)
  (fun e s=>e=.exit 1/\(s.env 5).v=.int .i64 (recF v x.mems 1)) (fun i hi s k h' ih hk=>?_) _ _ ?_ (fun e s h'=>?_)
 ·obtain ⟨e1,e2,e3,e4,a,ea,hs,hb⟩:=h';refine q04 ?_;by_cases hlt:i<x.mems.length
  ·have hlt':(i:Int)<x.mems.length:=by omega
   have g1:(x.mems.map memC)[i]?=some (memC x.mems[i]):=by simp [hlt]
   have hw:=q11 (i:=i) (by have:=hx.few; omega);have hmt:=hx.mems x.mems[i] (y8 _);rw [yc hlt,recF] at hs;generalize x.mems[i]=m at *
   have hvm:=hv m.ty.toNat (by omega);have gm:=q2O v hmt;have hm0:=hmt.1;have hm2:=Int.mul_nonneg hb.1 hvm.1;have hm3:a * v m.ty.toNat<=2 * 2:=mul_mono hb.1 hb.2 hvm.1 hvm.2;have hw2:IntKind.i64.wrap (a * v m.ty.toNat)=a * v m.ty.toNat:=IntWalk.i64_in _ (by omega);simp only [memC] at g1;simp [q44,-y0,-y5,-y4,y3,e1,e2,e3,e4,ea,hlt',g1,gm,hm0,hw,hw2];refine ih hlt _ ⟨?_,?_,?_,?_,min 2 (a * v m.ty.toNat),?_,hs,by omega⟩ <;> simp [e1,e2,e3]
  ·have hlt':¬ (i:Int)<x.mems.length:=by omega
   simp [q44,-y0,-y5,-y4,y3,e1,e2,e3,e4,hlt'];rw [yg (by omega),recF] at hs;exact hk _ _ ⟨rfl,by simp [ea,hs]⟩
 ·simp [typC,h]
 ·obtain ⟨rfl,ea⟩:=h';simp [-y0,-y5,-y4,y3,ea]
theorem cp_ev6 {N:Nat} {v:Vec} (hv:inR N v) {x:Typ} (hx:q2e N x) (h:x.kind=6):evA 205 [.agg (typC x),.bl (vecC N v)] (.int .i64 (cntP x v)):=by
 refine q00 (c:=q09) rfl rfl ?_;simp [q09,-y0,-y5,-y4,y3,typC,h,cntP];refine q0f x.mems.length (fun i s=>(s.env 1).v=.bl (vecC N v)/\(s.env 52).v=.sl x.mn (x.mems.map memC)/\(s.env 53).v=.int .i64 x.mems.length/\(s.env 54).v=.int .i64 i/\∃ a,(s.env 8).v=.int .i64 a/\sumF v (x.mems.drop i) a=sumF v x.mems 0/\0<=a/\a<=2 * i)
  (fun e s=>e=.exit 3/\(s.env 8).v=.int .i64 (sumF v x.mems 0)) (fun i hi s k h' ih hk=>?_) _ _ ?_ (fun e s h'=>?_)
 ·obtain ⟨e1,e2,e3,e4,a,ea,hs,hb⟩:=h';refine q04 ?_;by_cases hlt:i<x.mems.length
  ·have hlt':(i:Int)<x.mems.length:=by omega
   have g1:(x.mems.map memC)[i]?=some (memC x.mems[i]):=by simp [hlt]
   have hw:=q11 (i:=i) (by have:=hx.few; omega);have hmt:=hx.mems x.mems[i] (y8 _);rw [yc hlt,sumF] at hs;generalize x.mems[i]=m at *
   have hvm:=hv m.ty.toNat (by omega);have gm:=q2O v hmt;have hm0:=hmt.1;have hw2:IntKind.i64.wrap (a + v m.ty.toNat)=a + v m.ty.toNat:=IntWalk.i64_in _ (by have:=hx.few; omega);simp only [memC] at g1;simp [q43,-y0,-y5,-y4,y3,e1,e2,e3,e4,ea,hlt',g1,gm,hm0,hw,hw2];refine ih hlt _ ⟨?_,?_,?_,?_,a + v m.ty.toNat,?_,hs,by omega⟩ <;> simp [e1,e2,e3]
  ·have hlt':¬ (i:Int)<x.mems.length:=by omega
   simp [q43,-y0,-y5,-y4,y3,e1,e2,e3,e4,hlt'];rw [yg (by omega),sumF] at hs;exact hk _ _ ⟨rfl,by simp [ea,hs]⟩
 ·simp [typC,h]
 ·obtain ⟨rfl,ea⟩:=h';simp [-y0,-y5,-y4,y3,ea]
theorem cp_ev {N:Nat} {v:Vec} (hv:inR N v) {x:Typ} (hx:q2e N x) (hk:1<=x.kind/\x.kind<=9):evA 205 [.agg (typC x),.bl (vecC N v)] (.int .i64 (cntP x v)):=by
 rcases kinds x.kind with e | e | e | e | e | e | e | e | e | e
 ·exact cp_ev1 hv hx e
 ·exact cp_ev2 hv hx e
 ·exact cp_ev3 hv hx e
 ·exact cp_ev4 hv hx e
 ·exact cp_ev5 hv hx e
 ·exact cp_ev6 hv hx e
 ·exact cp_ev7 hv hx e
 ·exact cp_ev8 hv hx e
 ·exact cp_ev9 hv hx e
 ·exact absurd hk e
theorem qal {l:List Mem} (h:q0E l []=true):l=[]:=by
 cases l with
 | nil=>rfl
 | cons=>simp [q0E] at h
theorem good_few {t:Typ} (h:q0Q t=true):t.mems.length<=16:=by
 have hk:=q5M h;unfold q0Q q6O Typ.left at h;rcases kinds t.kind with e | e | e | e | e | e | e | e | e | e
 all_goals first | exact absurd hk e | skip
 all_goals simp [e,Typ.same,q1M,q5R] at h
 all_goals first
  | (obtain ⟨⟨_,h⟩,_⟩:=h; omega)
  | (have:=qal h.2; rw [this]; simp)
  | (have:=qal h.2.2; rw [this]; simp)
  | omega
theorem q20 {S:List Typ} (h:valid S=0):∀ x∈S,q2e S.length x:=fun x hx=>by
 obtain ⟨j,hj,rfl⟩:=yC hx;obtain ⟨h1,h2⟩:=q4O (q3F h j hj);generalize S[j]=t at *
 have use:∀ u∈t.usesL,0<=u/\u<S.length:=fun u hu=>by
  have:=List.any_eq_false.1 h2 u hu;simp [q0L] at this;omega
 refine ⟨fun m hm=>use _ ?_,good_few h1,fun h7=>use _ ?_,fun h8=>key_in h8 h2⟩
 ·unfold Typ.usesL;exact List.mem_append_left _ (List.mem_append_left _ (List.mem_map_of_mem hm))
 ·unfold Typ.usesL;rw [if_pos h7];exact List.mem_append_right _ (by simp)
theorem q51 {S:List Typ} (h:valid S=0):S.length<=32:=by
 unfold valid at h;by_cases h32:32<S.length
 ·rw [if_pos h32] at h; cases h
 ·omega
theorem vec0 (N:Nat):(yF N [AV.int .i64 0]).flatten.map (fun v=>(⟨v,.no⟩:Slot))=q0g (vecC N fun _=>0):=by
 unfold q0g;congr 1;congr 1;apply List.ext_getElem?;intro i;by_cases h:i<N
 ·simp [vecC,h]
 ·simp [vecC,h]
theorem vec0' (N:Nat):yF N (⟨AV.int .i64 0,.no⟩:Slot)=q0g (vecC N fun _=>0):=by
 rw [<- vec0];simp
theorem vec_els (N:Nat) (v:Vec):q3u (q0g (vecC N v)) 1 0 N=some (vecC N v):=by
 have:=q5W (qb8 N v) (vecC_free N v)
 rwa [qb9] at this
theorem vec_load (N:Nat) (v:Vec) {i:Nat} (hi:i<N):q17 false 1 i (q0g (vecC N v))=some ⟨.int .i64 (v i),.no⟩:=rowOf_load1 (qb8 N v) (by have:=q2O v (t:=(i:Int)) (N:=N) (by omega); simpa using this) 1
theorem vec_at (N:Nat) (v:Vec) {i:Nat} (hi:i<N):(q0g (vecC N v))[i]?=some ⟨.int .i64 (v i),.no⟩:=rowOf_at (qb8 N v) (by have:=q2O v (t:=(i:Int)) (N:=N) (by omega); simpa using this)
theorem vec_store (N:Nat) (v w:Vec) {i:Nat} (hi:i<N) {x:Int} (hx:w i=x) (h:∀ j,j≠i->w j=v j):q0i false 1 i (q0g (vecC N v)) (.int .i64 x) .no=some (q0g (vecC N w)):=by
 rw [rowOf_store1 (qb8 N v) (by rw [qb9]; exact hi) rfl,vecC_set v w hx h]
theorem lfp {N:Nat} {F:Nat->Vec->Int} (G:Grows N F):∃ w,Low N F w/\∀ j,j<N->F j w=w j:=by
 have:∀ (k:Nat) (v:Vec),Low N F v->2 * (N:Int) - sumV N v<=k->∃ w,Low N F w/\∀ j,j<N->F j w=w j:=by
  intro k
  induction k with
  | zero =>
   intro v hv hk;refine ⟨v,hv,fun j hj=>Classical.byContradiction fun hne=>?_⟩;have h1:=sumV_le _ N (Low.upd G hv hj).rng;rw [q9p F v j N hj] at h1;have:=hv.post j hj;omega
  | succ k ih =>
   intro v hv hk;by_cases h:∀ j,j<N->F j v=v j
   ·exact ⟨v,hv,h⟩
   ·obtain ⟨j,hj⟩:=Classical.not_forall.1 h;obtain ⟨hj,hne⟩:=Classical.not_imp.1 hj;refine ih (upd F v j) (Low.upd G hv hj) ?_;rw [q9p F v j N hj];have:=hv.post j hj;omega
 exact this (2 * N) _ (Low.zero G) (by have:=sumV_0 (fun _=>0) N (fun j _=>⟨Int.le_refl _,by show (0:Int)<=2; decide⟩); omega)
theorem lfp_eq {N:Nat} {F:Nat->Vec->Int} {v w:Vec} (hv:Low N F v) (fv:∀ j,j<N->F j v=v j) (hw:Low N F w) (fw:∀ j,j<N->F j w=w j):∀ j,j<N->v j=w j:=fun j hj=>by
 have h1:=hv.least w hw.rng (fun j hj=>by rw [fw j hj]; exact Int.le_refl _) j hj;have h2:=hw.least v hv.rng (fun j hj=>by rw [fv j hj]; exact Int.le_refl _) j hj;omega
theorem q6P {N:Nat} {v w:Vec} (h:∀ j,j<N->v j=w j):vecC N v=vecC N w:=by
 unfold vecC;exact yq fun j hj=>by rw [h j (List.mem_range.1 hj)]
theorem counts_ev (s:Sch) (h0:valid s.types=0) {w:Vec} (hw:Low s.types.length (FP s.types) w) (fw:∀ j,j<s.types.length->FP s.types j w=w j):evA 174 [.agg (schC s)] (.sl false (vecC s.types.length w)):=by
 have hW:=q20 h0;have hN:=q51 h0;have hG:=FP_grows hW;have hkind:∀ x∈s.types,1<=x.kind/\x.kind<=9:=fun x hx=>by
  obtain ⟨j,hj,rfl⟩:=yC hx;exact q5M (q4O (q3F h0 j hj)).1
 clear h0;simp only [schC];generalize s.types=S at *
 generalize s.nl=b at *
 obtain ⟨N,hNN⟩:∃ N,N=S.length:=⟨_,rfl⟩;rw [<- hNN] at hW hN hG hw fw ⊢;have hroom:q10 8 N=true:=by rw [q0l]; omega
 have hr1:(N:Int)=(S.length:Int):=by omega
 refine q00 (c:=q3G) rfl rfl ?_;have hb8:N * 8<=140737488355328:=by omega
 have hb1:N<=140737488355328:=by omega
 simp [q3G,-y0,-y5,-y4,y3,-q17,-q0i,q0K,q0U,q0p,q0q,<- hNN,hb8,hb1];refine q0f (2 * N + 1) (fun r σ=>(σ.env 1).v=.ptr 1 1 0/\σ.mem 1 1=some [⟨.sl b (S.map typC),.no⟩]/\(σ.env 3).v=.ref 11 2 1 0 N N/\∃ v,σ.mem 11 2=some (q0g (vecC N v))/\Low N (FP S) v/\((σ.env 4).v=.bool true/\(r:Int)<=sumV N v\/(σ.env 4).v=.bool false/\∀ j,j<N->FP S j v=v j))
  (fun e σ=>e=.exit 0/\(σ.env 3).v=.ref 11 2 1 0 N N/\∃ v,σ.mem 11 2=some (q0g (vecC N v))/\Low N (FP S) v/\∀ j,j<N->FP S j v=v j) (fun r hr σ k h ih hk=>?_) _ _ ?_ (fun e σ h=>?_)
 ·obtain ⟨e1,m1,e3,v0,m3,hv0,hst⟩:=h;refine q04 ?_;rcases hst with ⟨e4,hsum⟩ | ⟨e4,hfix⟩
  case inr =>
   simp [q3S,-y0,-y5,-y4,y3,-q17,-q0i,q0K,q0U,q0p,q0q,e4];exact hk _ _ ⟨rfl,by simp [e3],v0,by simp [m3],hv0,hfix⟩
  have hrN:r<2 * N + 1:=by
   have:=sumV_le v0 N hv0.rng;omega
  simp [q3S,-y0,-y5,-y4,y3,-q17,-q0i,q0K,q0U,q0p,q0q,e1,m1,e4,<- hNN];refine q0f N (fun i σ=>(σ.env 1).v=.ptr 1 1 0/\σ.mem 1 1=some [⟨.sl b (S.map typC),.no⟩]/\(σ.env 3).v=.ref 11 2 1 0 N N/\(σ.env 14).v=.sl b (S.map typC)/\(σ.env 15).v=.int .i64 N/\(σ.env 16).v=.int .i64 i/\∃ v,σ.mem 11 2=some (q0g (vecC N v))/\Low N (FP S) v/\((σ.env 4).v=.bool false/\v=v0/\(∀ j,j<i->FP S j v=v j)\/(σ.env 4).v=.bool true/\sumV N v0 + 1<=sumV N v))
   (fun e σ=>e=.exit 2/\(σ.env 1).v=.ptr 1 1 0/\σ.mem 1 1=some [⟨.sl b (S.map typC),.no⟩]/\(σ.env 3).v=.ref 11 2 1 0 N N/\∃ v,σ.mem 11 2=some (q0g (vecC N v))/\Low N (FP S) v/\((σ.env 4).v=.bool false/\(∀ j,j<N->FP S j v=v j)\/(σ.env 4).v=.bool true/\sumV N v0 + 1<=sumV N v)) (fun i hi σ k' h ih' hk'=>?_) _ _ ?_ (fun e σ h=>?_)
  ·obtain ⟨f1,n1,f3,f14,f15,f16,v,n3,hv,hst⟩:=h;refine q04 ?_;by_cases hlt:i<N
   ·have hlt':(i:Int)<N:=by omega
    have hltS:i<S.length:=by omega
    have g1:(S.map typC)[i]?=some (typC S[i]):=by simp [hltS]
    have hw':=q11 (i:=i) (by omega);have hc:=cp_ev hv.rng (hW _ (y8 hltS)) (hkind _ (y8 hltS));have hF:FP S i v=min 2 (cntP S[i] v):=by unfold FP; rw [y7 hltS]
    generalize S[i]=x at *
    simp only [typC] at g1;simp only [evA,typC] at hc;have hel:=vec_els N v;have hld:=vec_load N v hlt;have hat:=vec_at N v hlt;have hpost:=hv.post i hlt;have hup:=Low.upd hG hv hlt;have hsu:=q9p (FP S) v i N hlt;have hstv:=vec_store N v (upd (FP S) v i) hlt (x:=FP S i v) (by simp [upd]) (fun j hj=>by simp [upd,hj]);rw [hF] at hpost hsu hstv;by_cases hne:min 2 (cntP x v)=v i
    ·rcases hst with ⟨f4,rfl,hj⟩ | ⟨f4,hsum'⟩
     ·simp [q25,-y0,-y5,-y4,y3,-q17,-q0i,q0K,q0U,q0p,q0q,f1,n1,f3,f14,f15,f16,n3,hlt',g1,hel,hc,hld,hat,hw',hlt,hne];refine ih' hlt _ ⟨?_,?_,?_,?_,?_,?_,v,?_,hv,.inl ⟨?_,rfl,fun j hj'=>?_⟩⟩
      case refine_9=>
       rcases Nat.lt_succ_iff_lt_or_eq.1 hj' with h | rfl
       ·exact hj j h
       ·exact hF.trans hne
      all_goals simp [f1,n1,f3,f14,f15,n3,f4]
     ·simp [q25,-y0,-y5,-y4,y3,-q17,-q0i,q0K,q0U,q0p,q0q,f1,n1,f3,f14,f15,f16,n3,hlt',g1,hel,hc,hld,hat,hw',hlt,hne];refine ih' hlt _ ⟨?_,?_,?_,?_,?_,?_,v,?_,hv,.inr ⟨?_,hsum'⟩⟩
      all_goals simp [f1,n1,f3,f14,f15,n3,f4]
    ·simp [q25,-y0,-y5,-y4,y3,-q17,-q0i,q0K,q0U,q0p,q0q,f1,n1,f3,f14,f15,f16,n3,hlt',g1,hel,hc,hld,hat,hw',hlt,hne,hstv];refine ih' hlt _ ⟨?_,?_,?_,?_,?_,?_,upd (FP S) v i,?_,hup,.inr ⟨?_,?_⟩⟩
     case refine_9 =>
      rcases hst with ⟨f4,rfl,hj⟩ | ⟨f4,hsum'⟩ <;> omega
     all_goals simp [f1,n1,f3,f14,f15,n3]
   ·have hlt':¬ (i:Int)<N:=by omega
    have hiN:i=N:=by omega
    simp [q25,-y0,-y5,-y4,y3,-q17,-q0i,q0K,q0U,q0p,q0q,f15,f16,hlt'];refine hk' _ _ ⟨rfl,by simp [f1],by simp [n1],by simp [f3],v,by simp [n3],hv,?_⟩;rcases hst with ⟨f4,rfl,hj⟩ | ⟨f4,hsum'⟩
    ·exact .inl ⟨by simp [f4],hiN ▸ hj⟩
    ·exact .inr ⟨by simp [f4],hsum'⟩
  ·refine ⟨?_,?_,?_,?_,?_,?_,v0,?_,hv0,.inl ⟨?_,rfl,fun j hj=>absurd hj (by omega)⟩⟩
   all_goals simp [e1,m1,e3,m3]
  ·obtain ⟨rfl,e1,m1,e3,v,m3,hv,hst⟩:=h;simp [-y0,-y5,-y4,y3,-q17,-q0i,q0K,q0U,q0p,q0q];refine ih hrN _ ⟨by simp [e1],by simp [m1],by simp [e3],v,by simp [m3],hv,?_⟩;rcases hst with ⟨e4,hf⟩ | ⟨e4,hs⟩
   ·exact .inr ⟨by simp [e4],hf⟩
   ·exact .inl ⟨by simp [e4],by omega⟩
 ·refine ⟨?_,?_,?_,fun _=>0,?_,Low.zero hG,.inl ⟨?_,?_⟩⟩
  case refine_4=>simp [vec0']
  case refine_6=>exact sumV_0 _ N (fun j _=>⟨Int.le_refl _,by show (0:Int)<=2; decide⟩)
  all_goals simp
 ·obtain ⟨rfl,e3,v,m3,hv,hf⟩:=h;have hel:=vec_els N v;rw [q6P (lfp_eq hv hf hw fw)] at hel;rw [q6P (lfp_eq hv hf hw fw)] at m3;simp [-y0,-y5,-y4,y3,-q17,-q0i,q0K,q0U,q0p,q0q,e3,m3,hel]
theorem rcounts_ev (s:Sch) (h0:valid s.types=0) {w:Vec} (hw:Low s.types.length (FR s.types) w) (fw:∀ j,j<s.types.length->FR s.types j w=w j):evA 176 [.agg (schC s)] (.sl false (vecC s.types.length w)):=by
 have hW:=q20 h0;have hN:=q51 h0;have hG:=FR_grows hW;have hkind:∀ x∈s.types,1<=x.kind/\x.kind<=9:=fun x hx=>by
  obtain ⟨j,hj,rfl⟩:=yC hx;exact q5M (q4O (q3F h0 j hj)).1
 clear h0;simp only [schC];generalize s.types=S at *
 generalize s.nl=b at *
 obtain ⟨N,hNN⟩:∃ N,N=S.length:=⟨_,rfl⟩;rw [<- hNN] at hW hN hG hw fw ⊢;have hb8:N * 8<=140737488355328:=by omega
 have hb1:N<=140737488355328:=by omega
 have hw2:IntKind.i64.wrap (2 * (N:Int))=2 * N:=IntWalk.i64_in _ (by omega);refine q00 (c:=q4J) rfl rfl ?_;simp [q4J,-y0,-y5,-y4,y3,-q17,-q0i,q0K,q0U,q0p,q0q,<- hNN,hb8,hb1];refine q0f (2 * N + 1) (fun r σ=>(σ.env 1).v=.ptr 1 1 0/\σ.mem 1 1=some [⟨.sl b (S.map typC),.no⟩]/\(σ.env 3).v=.ref 9 2 1 0 N N/\(σ.env 4).v=.int .i64 r/\∃ v,σ.mem 9 2=some (q0g (vecC N v))/\Low N (FR S) v/\((r:Int)<=sumV N v\/∀ j,j<N->FR S j v=v j))
  (fun e σ=>e=.exit 0/\(σ.env 3).v=.ref 9 2 1 0 N N/\∃ v,σ.mem 9 2=some (q0g (vecC N v))/\Low N (FR S) v/\∀ j,j<N->FR S j v=v j) (fun r hr σ k h ih hk=>?_) _ _ ?_ (fun e σ h=>?_)
 ·obtain ⟨e1,m1,e3,e4,v0,m3,hv0,hst⟩:=h;refine q04 ?_;by_cases hrN:r<2 * N + 1
  case neg =>
   have hlt':¬ (r:Int)<=2 * N:=by omega
   simp [q4x,-y0,-y5,-y4,y3,-q17,-q0i,q0K,q0U,q0p,q0q,e1,m1,e4,<- hNN,hw2,hlt'];refine hk _ _ ⟨rfl,by simp [e3],v0,by simp [m3],hv0,?_⟩;rcases hst with h | h
   ·have:=sumV_le v0 N hv0.rng;omega
   ·exact h
  have hlt':(r:Int)<=2 * N:=by omega
  have hwr:=q11 (i:=r) (by omega);simp [q4x,-y0,-y5,-y4,y3,-q17,-q0i,q0K,q0U,q0p,q0q,e1,m1,e4,<- hNN,hw2,hlt'];refine q0f N (fun i σ=>(σ.env 1).v=.ptr 1 1 0/\σ.mem 1 1=some [⟨.sl b (S.map typC),.no⟩]/\(σ.env 3).v=.ref 9 2 1 0 N N/\(σ.env 4).v=.int .i64 r/\(σ.env 5).v=.int .i64 i/\∃ v,σ.mem 9 2=some (q0g (vecC N v))/\Low N (FR S) v/\((∀ j,j<N->FR S j v0=v0 j)->v=v0)/\(v=v0/\(∀ j,j<i->FR S j v=v j)\/sumV N v0 + 1<=sumV N v))
   (fun e σ=>e=.exit 2/\(σ.env 1).v=.ptr 1 1 0/\σ.mem 1 1=some [⟨.sl b (S.map typC),.no⟩]/\(σ.env 3).v=.ref 9 2 1 0 N N/\(σ.env 4).v=.int .i64 r/\∃ v,σ.mem 9 2=some (q0g (vecC N v))/\Low N (FR S) v/\((∀ j,j<N->FR S j v=v j)\/(r:Int) + 1<=sumV N v)) (fun i hi σ k' h ih' hk'=>?_) _ _ ?_ (fun e σ h=>?_)
  ·obtain ⟨f1,n1,f3,f4,f5,v,n3,hv,hfx,hst'⟩:=h;refine q04 ?_;by_cases hlt:i<N
   ·have hlt':(i:Int)<N:=by omega
    have hltS:i<S.length:=by omega
    have g1:(S.map typC)[i]?=some (typC S[i]):=by simp [hltS]
    have hw':=q11 (i:=i) (by omega);have hc:=cr_ev hv.rng (hW _ (y8 hltS)) (hkind _ (y8 hltS));have hF:FR S i v=cntR S[i] v:=by unfold FR; rw [y7 hltS]
    generalize S[i]=x at *
    simp only [typC] at g1;simp only [evA,typC] at hc;have hel:=vec_els N v;have hpost:=hv.post i hlt;have hup:=Low.upd hG hv hlt;have hsu:=q9p (FR S) v i N hlt;have hstv:=vec_store N v (upd (FR S) v i) hlt (x:=FR S i v) (by simp [upd]) (fun j hj=>by simp [upd,hj]);have hsame:FR S i v=v i->upd (FR S) v i=v:=upd_same;rw [hF] at hpost hsu hstv;have hltS':(i:Int)<S.length:=by omega
    simp [q4w,-y0,-y5,-y4,y3,-q17,-q0i,q0K,q0U,q0p,q0q,f1,n1,f3,f4,f5,n3,hltS',g1,hel,hc,hw',hlt,hstv];refine ih' hlt _ ⟨?_,?_,?_,?_,?_,upd (FR S) v i,?_,hup,?_,?_⟩
    case refine_7 =>
     intro hall;have e:=hfx hall;subst e;exact hsame (hall i hlt)
    case refine_8 =>
     by_cases hne:FR S i v=v i
     ·rw [hsame hne];rcases hst' with ⟨rfl,hj⟩ | hs
      ·refine .inl ⟨rfl,fun j hj'=>?_⟩;rcases Nat.lt_succ_iff_lt_or_eq.1 hj' with h | rfl
       ·exact hj j h
       ·exact hne
      ·exact .inr hs
     ·right;rw [hF] at hne;rcases hst' with ⟨rfl,hj⟩ | hs <;> omega
    all_goals simp [f1,n1,f3,f4]
   ·have hlt':¬ (i:Int)<N:=by omega
    have hiN:i=N:=by omega
    simp [q4w,-y0,-y5,-y4,y3,-q17,-q0i,q0K,q0U,q0p,q0q,f1,n1,f5,<- hNN,hlt'];refine hk' _ _ ⟨rfl,by simp [f1],by simp [n1],by simp [f3],by simp [f4],v,by simp [n3],hv,?_⟩;rcases hst with hr | hall
    ·rcases hst' with ⟨rfl,hj⟩ | hs
     ·exact .inl (hiN ▸ hj)
     ·exact .inr (by omega)
    ·rw [hfx hall]; exact .inl hall
  ·refine ⟨?_,?_,?_,?_,?_,v0,?_,hv0,fun _=>rfl,.inl ⟨rfl,fun j hj=>absurd hj (by omega)⟩⟩
   all_goals simp [e1,m1,e3,e4,m3]
  ·obtain ⟨rfl,f1,n1,f3,f4,v,n3,hv,hst'⟩:=h;simp [-y0,-y5,-y4,y3,-q17,-q0i,q0K,q0U,q0p,q0q,f4,hwr];refine ih hrN _ ⟨by simp [f1],by simp [n1],by simp [f3],by simp,v,by simp [n3],hv,?_⟩;rcases hst' with h | h
   ·exact .inr h
   ·exact .inl (by omega)
 ·refine ⟨?_,?_,?_,?_,fun _=>0,?_,Low.zero hG,.inl ?_⟩
  case refine_5=>simp [vec0']
  case refine_6=>exact sumV_0 _ N (fun j _=>⟨Int.le_refl _,by show (0:Int)<=2; decide⟩)
  all_goals simp
 ·obtain ⟨rfl,e3,v,m3,hv,hf⟩:=h;have hel:=vec_els N v;rw [q6P (lfp_eq hv hf hw fw)] at hel;rw [q6P (lfp_eq hv hf hw fw)] at m3;simp [-y0,-y5,-y4,y3,-q17,-q0i,q0K,q0U,q0p,q0q,e3,m3,hel]
theorem both_cnts (s:Sch) (h0:valid s.types=0):∃ w:Vec,Low s.types.length (FP s.types) w/\(∀ j,j<s.types.length->FP s.types j w=w j)/\evA 174 [.agg (schC s)] (.sl false (vecC s.types.length w))/\evA 176 [.agg (schC s)] (.sl false (vecC s.types.length w)):=by
 have hW:=q20 h0;obtain ⟨v,hv,fv⟩:=lfp (FP_grows hW);obtain ⟨w,hw,fw⟩:=lfp (FR_grows hW);have h1:=counts_ev s h0 hv fv;have h2:=rcounts_ev s h0 hw fw;refine ⟨v,hv,fv,h1,?_⟩;rw [q6P (FPR hW ?_ hv fv hw fw)]
 ·exact h2
 ·intro x hx h8 u hu;obtain ⟨j,hj,rfl⟩:=yC hx;have he:=q3F h0 j hj;obtain ⟨hg,ho⟩:=q4O he;obtain ⟨k0,k1⟩:=key_in h8 ho;have hlt:s.types[j].key.toNat<s.types.length:=by omega
  have hkk:1<=s.types[s.types[j].key.toNat].kind/\s.types[s.types[j].key.toNat].kind<=4:=by
   have hka:q5N s.types s.types[j].key=s.types[s.types[j].key.toNat].kind:=by unfold q5N; rw [y7 hlt]
   rw [<- hka];refine Classical.byContradiction fun hn=>?_
   unfold q1X at he;rw [if_neg (by simp [hg])] at he;by_cases h2:s.types[j].named=true/\s.types[j].name∈(s.types.take j).map Typ.name
   ·rw [if_pos h2] at he; cases he
   ·rw [if_neg h2,if_neg (by simp [ho]),if_pos ⟨h8,hn⟩] at he;cases he
  have hgk:=(q4O (q3F h0 _ hlt)).1;unfold FP;rw [y7 hlt];generalize s.types[s.types[j].key.toNat]=y at *
  have hy:y.kind=1\/y.kind=2\/y.kind=3\/y.kind=4:=by omega
  simp only;rcases hy with e | e | e | e
  ·simp [cntP,e]
  ·simp [cntP,e]; split <;> decide
  ·simp [cntP,e]; split <;> decide
  ·have:0<y.syms.length:=by
    unfold q0Q q6O q8m at hgk;simp [e] at hgk;exact hgk.1.2.1
   simp [cntP,e];omega
def posV (w:Vec) (n:Nat):List (List AV):=(List.range n).map fun j=>[AV.bool (decide (0<w j))]
theorem q9l (w:Vec) (n:Nat):posV w (n + 1)=posV w n++[[AV.bool (decide (0<w n))]]:=by simp [posV,y3]
theorem posV_els (w:Vec) (n:Nat):q1f 1 (posV w n)=true:=q1B _ _ _ fun _=>rfl
theorem qb5 (w:Vec) (n:Nat):(posV w n).length=n:=by simp [posV]
theorem posV_get (w:Vec) {n i:Nat} (h:i<n):(posV w n)[i]?=some [.bool (decide (0<w i))]:=by simp [posV,h]
noncomputable def finA (S:List Typ) (w:Vec):AV:=if q2W S=0 then .tup [.sl (decide (S.length=0)) (posV w S.length),.int .i64 0] else .tup [.sl true [],.int .i64 (q2W S)]
theorem q6A {S:List Typ} (h:q2W S=0):valid S=0:=by
 unfold q2W at h;by_cases h0:valid S=0
 ·exact h0
 ·rw [if_neg h0] at h; exact absurd h h0
theorem finite_ev (s:Sch) (hs:s.fine) (h64:s.d64) {w:Vec} (hw:q2W s.types=0->inR s.types.length w/\evA 174 [.agg (schC s)] (.sl false (vecC s.types.length w))):evA 144 [.agg (schC s)] (finA s.types w):=by
 have hr:=right_ev s hs h64;refine q00 (c:=q2R) rfl rfl ?_;unfold finA;simp only [evA,schC] at hr hw;by_cases h0:q2W s.types=0
 case neg =>
  rw [if_neg h0];simp [q2R,-y0,-y5,-y4,y3,schC,hr,h0]
 have hN:=q51 (q6A h0);obtain ⟨hrng,hc⟩:=hw h0;rw [if_pos h0];rw [h0] at hr;simp only [schC];generalize s.types=S at *
 generalize s.nl=b at *
 obtain ⟨N,hNN⟩:∃ N,N=S.length:=⟨_,rfl⟩;rw [<- hNN] at hN hrng hc ⊢;have hvl:=qb9 N w;simp [q2R,-y0,-y5,-y4,y3,schC,hr,hc,hvl];refine q0f N (fun i σ=>(σ.env 14).v=.sl false (vecC N w)/\(σ.env 15).v=.int .i64 N/\(σ.env 16).v=.int .i64 i/\(σ.env 5).v=.sl (decide (i=0)) (posV w i)/\(i=0/\(σ.env 5).a=.ex\/¬ i=0/\(σ.env 5).a=.own 24 4))
  (fun e σ=>e=.exit 0/\(σ.env 5).v=.sl (decide (N=0)) (posV w N)) (fun i hi σ k h ih hk=>?_) _ _ ?_ (fun e σ h=>?_)
 ·obtain ⟨e14,e15,e16,e5,an⟩:=h;refine q04 ?_;by_cases hlt:i<N
  ·have hlt':(i:Int)<N:=by omega
   have g1:(vecC N w)[i]?=some [.int .i64 (w i)]:=by have:=q2O w (t:=(i:Int)) (N:=N) (by omega); simpa using this
   have hwi:=q11 (i:=i) (by omega);have q:=posV_els w i;have ql:=qb5 w i;have hroom:q10 1 (i + 1)=true:=by rw [q0l]; omega
   rcases an with ⟨a0,a5⟩ | ⟨a0,a5⟩
   ·simp [q2I,-y0,-y5,-y4,y3,e14,e15,e16,e5,a5,hlt',g1,q,ql,hwi,hroom];refine ih hlt _ ⟨?_,?_,?_,?_,?_⟩ <;> simp [e14,e15,q9l,An.strip]
   ·simp [q2I,-y0,-y5,-y4,y3,e14,e15,e16,e5,a0,a5,hlt',g1,q,ql,hwi,hroom];refine ih hlt _ ⟨?_,?_,?_,?_,?_⟩ <;> simp [e14,e15,q9l,An.strip]
  ·have hlt':¬ (i:Int)<N:=by omega
   have hiN:i=N:=by omega
   simp [q2I,-y0,-y5,-y4,y3,e15,e16,hlt'];exact hk _ _ ⟨rfl,by rw [<- hiN]; simp [e5]⟩
 ·simp [posV]
 ·obtain ⟨rfl,e5⟩:=h;simp [-y0,-y5,-y4,y3,e5]
theorem rfinite_ev (s:Sch) (hs:s.fine) (h64:s.d64) {w:Vec} (hw:q2W s.types=0->inR s.types.length w/\evA 176 [.agg (schC s)] (.sl false (vecC s.types.length w))):evA 145 [.agg (schC s)] (finA s.types w):=by
 have hr:=rerror_ev s hs h64;refine q00 (c:=q3C) rfl rfl ?_;unfold finA;simp only [evA,schC] at hr hw;by_cases h0:q2W s.types=0
 case neg =>
  rw [if_neg h0];simp [q3C,-y0,-y5,-y4,y3,schC,hr,h0]
 have hN:=q51 (q6A h0);obtain ⟨hrng,hc⟩:=hw h0;rw [if_pos h0];rw [h0] at hr;simp only [schC];generalize s.types=S at *
 generalize s.nl=b at *
 obtain ⟨N,hNN⟩:∃ N,N=S.length:=⟨_,rfl⟩;rw [<- hNN] at hN hrng hc ⊢;have hvl:=qb9 N w;simp [q3C,-y0,-y5,-y4,y3,schC,hr,hc];refine q0f N (fun i σ=>(σ.env 5).v=.sl false (vecC N w)/\(σ.env 7).v=.int .i64 i/\(σ.env 6).v=.sl (decide (i=0)) (posV w i)/\(i=0/\(σ.env 6).a=.ex\/¬ i=0/\(σ.env 6).a=.own 28 4))
  (fun e σ=>e=.exit 0/\(σ.env 6).v=.sl (decide (N=0)) (posV w N)) (fun i hi σ k h ih hk=>?_) _ _ ?_ (fun e σ h=>?_)
 ·obtain ⟨e5,e7,e6,an⟩:=h;refine q04 ?_;by_cases hlt:i<N
  ·have hlt':(i:Int)<N:=by omega
   have g1:(vecC N w)[i]?=some [.int .i64 (w i)]:=by have:=q2O w (t:=(i:Int)) (N:=N) (by omega); simpa using this
   have hwi:=q11 (i:=i) (by omega);have q:=posV_els w i;have ql:=qb5 w i;have hroom:q10 1 (i + 1)=true:=by rw [q0l]; omega
   rcases an with ⟨a0,a5⟩ | ⟨a0,a5⟩
   ·simp [q3r,-y0,-y5,-y4,y3,e5,e7,e6,a5,hlt',hvl,g1,q,ql,hwi,hroom];refine ih hlt _ ⟨?_,?_,?_,?_⟩ <;> simp [e5,q9l,An.strip]
   ·simp [q3r,-y0,-y5,-y4,y3,e5,e7,e6,a0,a5,hlt',hvl,g1,q,ql,hwi,hroom];refine ih hlt _ ⟨?_,?_,?_,?_⟩ <;> simp [e5,q9l,An.strip]
  ·have hlt':¬ (i:Int)<N:=by omega
   have hiN:i=N:=by omega
   simp [q3r,-y0,-y5,-y4,y3,e5,e7,hvl,hlt'];exact hk _ _ ⟨rfl,by rw [<- hiN]; simp [e6]⟩
 ·simp [posV]
 ·obtain ⟨rfl,e5⟩:=h;simp [-y0,-y5,-y4,y3,e5]
def q5d (w:Vec):Nat->Bool
 | 0=>true
 | n + 1=>q5d w n&&decide (0<w n)
theorem allPos_f {w:Vec}:∀ {n:Nat} (i:Nat),i<n->¬ 0<w i->q5d w n=false
 | 0,i,h,_=>by omega
 | n + 1,i,h,hn=>by
  unfold q5d;by_cases e:i=n
  ·subst e; simp [hn]
  ·rw [allPos_f i (by omega) hn]; rfl
noncomputable def soundE (S:List Typ) (w:Vec):Int:=if q2W S=0 then (if q5d w S.length=true then 0 else 10) else q2W S
theorem sound_ev (s:Sch) (hs:s.fine) (h64:s.d64) {w:Vec} (hw:q2W s.types=0->inR s.types.length w/\evA 174 [.agg (schC s)] (.sl false (vecC s.types.length w))):evA 95 [.agg (schC s)] (.int .i64 (soundE s.types w)):=by
 have hf:=finite_ev s hs h64 hw;refine q00 (c:=q3a) rfl rfl ?_;unfold finA at hf;unfold soundE;simp only [evA,schC] at hf;by_cases h0:q2W s.types=0
 case neg =>
  rw [if_neg h0] at hf ⊢;simp [q3a,-y0,-y5,-y4,y3,schC,hf,h0]
 have hN:=q51 (q6A h0);clear hw;rw [if_pos h0] at hf ⊢;simp only [schC];generalize s.types=S at *
 generalize s.nl=b at *
 obtain ⟨N,hNN⟩:∃ N,N=S.length:=⟨_,rfl⟩;rw [<- hNN] at hN hf ⊢;have hvl:=qb5 w N;simp [q3a,-y0,-y5,-y4,y3,schC,hf,hvl];refine q0f N (fun i σ=>(σ.env 15).v=.sl (decide (N=0)) (posV w N)/\(σ.env 16).v=.int .i64 N/\(σ.env 17).v=.int .i64 i/\q5d w i=true)
  (fun e σ=>(e=.exit 0/\q5d w N=true)\/(e=.ret/\q5d w N=false/\(σ.env 2).v=.int .i64 10)) (fun i hi σ k h ih hk=>?_) _ _ ?_ (fun e σ h=>?_)
 ·obtain ⟨e15,e16,e17,hp⟩:=h;refine q04 ?_;by_cases hlt:i<N
  ·have hlt':(i:Int)<N:=by omega
   have g1:=posV_get w hlt;have hwi:=q11 (i:=i) (by omega);by_cases hpos:0<w i
   ·rw [decide_eq_true hpos] at g1;simp [q32,-y0,-y5,-y4,y3,e15,e16,e17,hlt',g1,hwi];refine ih hlt _ ⟨?_,?_,?_,by rw [q5d,hp,decide_eq_true hpos]; rfl⟩ <;> simp [e15,e16]
   ·rw [decide_eq_false hpos] at g1;simp [q32,-y0,-y5,-y4,y3,e15,e16,e17,hlt',g1];exact hk _ _ (.inr ⟨rfl,allPos_f i hlt hpos,by simp⟩)
  ·have hlt':¬ (i:Int)<N:=by omega
   have hiN:i=N:=by omega
   simp [q32,-y0,-y5,-y4,y3,e16,e17,hlt'];exact hk _ _ (.inl ⟨rfl,hiN ▸ hp⟩)
 ·simp [q5d]
 ·rcases h with ⟨rfl,h1⟩ | ⟨rfl,h1,h2⟩
  ·simp [-y0,-y5,-y4,y3,h1]
  ·simp [-y0,-y5,-y4,y3,h1,h2]
theorem rsound_ev (s:Sch) (hs:s.fine) (h64:s.d64) {w:Vec} (hw:q2W s.types=0->inR s.types.length w/\evA 176 [.agg (schC s)] (.sl false (vecC s.types.length w))):evA 97 [.agg (schC s)] (.int .i64 (soundE s.types w)):=by
 have hf:=rfinite_ev s hs h64 hw;refine q00 (c:=q4e) rfl rfl ?_;unfold finA at hf;unfold soundE;simp only [evA,schC] at hf;by_cases h0:q2W s.types=0
 case neg =>
  rw [if_neg h0] at hf ⊢;simp [q4e,-y0,-y5,-y4,y3,schC,hf,h0]
 have hN:=q51 (q6A h0);clear hw;rw [if_pos h0] at hf ⊢;simp only [schC];generalize s.types=S at *
 generalize s.nl=b at *
 obtain ⟨N,hNN⟩:∃ N,N=S.length:=⟨_,rfl⟩;rw [<- hNN] at hN hf ⊢;have hvl:=qb5 w N;simp [q4e,-y0,-y5,-y4,y3,schC,hf];refine q0f N (fun i σ=>(σ.env 3).v=.sl (decide (N=0)) (posV w N)/\(σ.env 5).v=.int .i64 i/\q5d w i=true)
  (fun e σ=>(e=.exit 0/\q5d w N=true)\/(e=.ret/\q5d w N=false/\(σ.env 2).v=.int .i64 10)) (fun i hi σ k h ih hk=>?_) _ _ ?_ (fun e σ h=>?_)
 ·obtain ⟨e3,e5,hp⟩:=h;refine q04 ?_;by_cases hlt:i<N
  ·have hlt':(i:Int)<N:=by omega
   have g1:=posV_get w hlt;have hwi:=q11 (i:=i) (by omega);by_cases hpos:0<w i
   ·rw [decide_eq_true hpos] at g1;simp [q3K,-y0,-y5,-y4,y3,e3,e5,hlt',hvl,g1,hwi];refine ih hlt _ ⟨?_,?_,by rw [q5d,hp,decide_eq_true hpos]; rfl⟩ <;> simp [e3]
   ·rw [decide_eq_false hpos] at g1;simp [q3K,-y0,-y5,-y4,y3,e3,e5,hlt',hvl,g1];exact hk _ _ (.inr ⟨rfl,allPos_f i hlt hpos,by simp⟩)
  ·have hlt':¬ (i:Int)<N:=by omega
   have hiN:i=N:=by omega
   simp [q3K,-y0,-y5,-y4,y3,e3,e5,hvl,hlt'];exact hk _ _ (.inl ⟨rfl,hiN ▸ hp⟩)
 ·simp [q5d]
 ·rcases h with ⟨rfl,h1⟩ | ⟨rfl,h1,h2⟩
  ·simp [-y0,-y5,-y4,y3,h1]
  ·simp [-y0,-y5,-y4,y3,h1,h2]
theorem q6I {l:List Nde} {i:Int} {rc:Bool} {ps:List Prt}:∀ (n:Nat) (m:Mem),m∈q5S l i rc ps n->∃ id p,1<=id/\id<=(n:Int)/\p∈ps/\q74 l i id p=true/\m=memZ l i rc id p
 | 0,m,h=>by simp [q5S] at h
 | n + 1,m,h=>by
  rw [q5S] at h;rcases yA.1 h with h | h
  ·obtain ⟨id,p,h1,h2,h3⟩:=q6I n m h;exact ⟨id,p,h1,by omega,h3⟩
  ·unfold memAt at h;split at h
   ·rename_i p hp;simp only [List.mem_singleton] at h;exact ⟨((n + 1:Nat):Int),p,by omega,by omega,List.mem_of_find?_eq_some hp,List.find?_some hp,h⟩
   ·cases h
theorem init_ok {l:List Nde} (hl:oks l) (t code:Int) (hc:0<=code):(q7k l t code).1.ok/\(q7k l t code).1.i64:=by
 have hx:u8 (ndAt l t).a/\u8 (ndAt l t).b:=by
  unfold ndAt;cases h:l[t.toNat]? with
  | none=>exact ⟨⟨by decide,by decide⟩,⟨by decide,by decide⟩⟩
  | some x =>
   have:=hl.2.2 x (yo h);exact ⟨this.2.1,this.2.2.1⟩
 obtain ⟨⟨a0,a1⟩,⟨b0,b1⟩⟩:=hx;unfold q7k;split
 ·exact ⟨by rw [Vl.ok_def]; simp [Vl.of,Vl.keys,Vl.items,Vl.rest,Vl.s]; decide,by rw [Vl.i64_def]; simp [Vl.of,Vl.keys,Vl.items,Vl.i,i64R]⟩
 ·refine ⟨?_,?_⟩
  ·rw [Vl.ok_def];refine ⟨by simp [Vl.of,Vl.keys],by simp [Vl.of,Vl.items],by simp [Vl.of,Vl.rest],?_,by simp [Vl.of,Vl.keys],by simp [Vl.of,Vl.items]⟩;simp only [Vl.of,Vl.s];split <;> exact (by decide)
  ·rw [Vl.i64_def];refine ⟨?_,by simp [Vl.of,Vl.keys],by simp [Vl.of,Vl.items]⟩;simp only [Vl.of,Vl.i,i64R];split
   ·have hm:0<(ndAt l t).b % 6 + 1:=by omega
    have:=yI code (show (ndAt l t).b % 6 + 1≠0 by omega);have:=yN code hm;simp only [Nde.low];omega
   ·omega
theorem memZ_ok {l:List Nde} (hl:oks l) {i:Int} {rc:Bool} {id:Int} {p:Prt} (hp:p.ok):(memZ l i rc id p).ok/\(memZ l i rc id p).dflt.i64:=by
 have hf:0<=p.flag / 4:=by have:=hp.2.2.1; omega
 obtain ⟨h1,h2⟩:=init_ok hl (tgtZ l i p.ty) (p.flag / 4) hf;have hz:Vl.zero.ok/\Vl.zero.i64:=⟨by rw [Vl.ok_def]; simp [Vl.zero,Vl.keys,Vl.items,Vl.rest,Vl.s]; decide,by rw [Vl.i64_def]; simp [Vl.zero,Vl.keys,Vl.items,Vl.i,i64R]⟩;have hn:(memZ l i rc id p).name.size<=9223372036854775807:=by
  have:=enc_size (97 + id);have h1:(⟨#[109]⟩:ByteArray).size=1:=rfl;simp only [memZ,q9E,ByteArray.size_append];omega
 refine ⟨⟨?_,hn⟩,?_⟩ <;> simp only [memZ] <;> split <;> first | exact h1 | exact h2 | exact hz.1 | exact hz.2
theorem typZ_ok {l:List Nde} (hl:oks l) (i:Nat) (hi:i<l.length):(typZ l (i:Int)).fine/\(typZ l (i:Int)).d64:=by
 have hx:=q3w hl hi;have hm:∀ rc,∀ m∈q3i l (i:Int) rc (ndAt l (i:Int)).parts,m.ok/\m.dflt.i64:=fun rc m h=>by
  obtain ⟨id,p,_,_,h1,_,rfl⟩:=q6I 12 m h;exact memZ_ok hl (hx.2.2.2.2.2 p h1)
 have hlen:∀ rc,(q3i l (i:Int) rc (ndAt l (i:Int)).parts).length<=12:=fun rc=>q78 l _ rc _ 12
 have hs:(q6s (ndAt l (i:Int)).a).length<=6:=by
  have:=qb4 (ndAt l (i:Int)).a;simp only [q6s,yx];omega
 have base:∀ k nm,(Typ.of k nm).fine/\(Typ.of k nm).d64:=fun k nm=>⟨⟨⟨by simp [Typ.of],by simp [Typ.of],by simp [Typ.of]⟩,by simp [Typ.of],by simp [Typ.of]⟩,by simp [Typ.d64,Typ.of]⟩
 have hall:∀ t:Typ,t.syms.length<=6->t.mems.length<=12->(∀ m∈t.mems,m.ok/\m.dflt.i64)->t.fine/\t.d64:=fun t h1 h2 h3=>⟨⟨⟨by omega,by omega,fun m hm=>(h3 m hm).1⟩,by omega,by omega⟩,fun m hm=>(h3 m hm).2⟩
 unfold typZ;simp only;split
 ·exact base _ _
 ·exact hall _ (by simp [Typ.of]) (by simp [Typ.of]) (by simp [Typ.of])
 ·exact hall _ (by simp [Typ.of]) (by simp [Typ.of]) (by simp [Typ.of])
 ·exact hall _ hs (by simp [Typ.of]) (by simp [Typ.of])
 ·exact hall _ (by simp [Typ.of]) (hlen _) (hm _)
 ·split
  ·exact base _ _
  ·exact hall _ (by simp [Typ.of]) (hlen _) (hm _)
 ·exact hall _ (by simp [Typ.of]) (by simp [Typ.of]) (by simp [Typ.of])
 ·split <;> exact hall _ (by simp [Typ.of]) (by simp [Typ.of]) (by simp [Typ.of])
 ·exact hall _ (by simp [Typ.of]) (by simp [Typ.of]) (by simp [Typ.of])
theorem rwT_ok {n:Nat} {a b:Typ} (h:rwT n a b) (ha:a.fine/\a.d64):b.fine/\b.d64:=by
 obtain ⟨bs,⟨hl,hm⟩,rfl⟩:=h;obtain ⟨⟨⟨h1,h2,h3⟩,h4,h5⟩,h6⟩:=ha;have hz:Vl.zero.ok/\Vl.zero.i64:=⟨by rw [Vl.ok_def]; simp [Vl.zero,Vl.keys,Vl.items,Vl.rest,Vl.s]; decide,by rw [Vl.i64_def]; simp [Vl.zero,Vl.keys,Vl.items,Vl.i,i64R]⟩;have hb:∀ m∈bs,m.ok/\m.dflt.i64:=fun m hmem=>by
  obtain ⟨i,hi,rfl⟩:=yC hmem;have hia:i<a.mems.length:=by omega
  obtain ⟨g1,g2,g3,g4⟩:=hm i _ _ (y7 hia) (y7 hi);have hao:=h3 _ (y8 hia);have had:=h6 _ (y8 hia);rcases g4 with g4 | ⟨_,_,_,g4⟩
  ·rw [g4]; exact ⟨hao,had⟩
  ·exact ⟨⟨by rw [g4]; exact hz.1,by rw [g2]; exact hao.2⟩,by rw [g4]; exact hz.2⟩
 exact ⟨⟨⟨h1,by dsimp only; omega,fun m hmem=>(hb m hmem).1⟩,h4,by dsimp only; omega⟩,fun m hmem=>(hb m hmem).2⟩
theorem rwS_ok {l:List Nde} (hl:oks l) {T:List Typ} (h:rwS l.length (q0d l) T):(⟨false,T⟩:Sch).fine/\(⟨false,T⟩:Sch).d64:=by
 obtain ⟨hlen,h⟩:=h;have hl5:=hl.2.1;have hdl:(q0d l).length=l.length:=by simp [q0d]
 have hT:∀ t∈T,t.fine/\t.d64:=fun t ht=>by
  obtain ⟨i,hi,rfl⟩:=yC ht;have hi':i<l.length:=by omega
  have:=h i (typZ l (i:Int)) _ (by simp [q0d,hi']) (y7 hi);exact rwT_ok this (typZ_ok hl i hi')
 exact ⟨⟨by dsimp only; omega,fun t ht=>(hT t ht).1⟩,fun t ht=>(hT t ht).2⟩
theorem mName_ok:∀ d:Fin 13,q3E (q9E (d.val:Int))=true:=by decide +kernel
theorem mName_inj:∀ d e:Fin 13,q9E (d.val:Int)=q9E (e.val:Int)->d=e:=by decide +kernel
theorem tName_ok:∀ d:Fin 5,q3E (q7t (d.val:Int))=true:=by decide +kernel
theorem tName_inj:∀ d e:Fin 5,q7t (d.val:Int)=q7t (e.val:Int)->d=e:=by decide +kernel
theorem symsZ_ok:∀ a:Fin 256,q8m (q6s (a.val:Int))=true:=by decide +kernel
theorem mName_ok' {d:Int} (h:0<=d/\d<=12):q3E (q9E d)=true:=by
 have:=mName_ok ⟨d.toNat,by omega⟩
 rwa [show ((d.toNat:Nat):Int)=d from by omega] at this
theorem mName_inj' {d e:Int} (h:0<=d/\d<=12) (h':0<=e/\e<=12) (he:q9E d=q9E e):d=e:=by
 have:=mName_inj ⟨d.toNat,by omega⟩ ⟨e.toNat,by omega⟩;simp only [show ((d.toNat:Nat):Int)=d from by omega,show ((e.toNat:Nat):Int)=e from by omega] at this;have:=congrArg Fin.val (this he);simp only at this;omega
theorem ents_asc:∀ (L:List Int) (b:Int) (seen:List ByteArray),0<=b->(∀ d∈L,b<d/\d<=12)->L.Pairwise (·<·)->(∀ s∈seen,∃ j,0<=j/\j<=b/\s=q9E j)->q1W b seen (L.map fun d=>(d,q9E d))=true
 | [],_,_,_,_,_,_=>rfl
 | d :: r,b,seen,hb,hd,hp,hs=>by
  have h1:=hd d yl;rw [List.pairwise_cons] at hp;simp only [yk,q1W,yb,Bool.not_eq_true'];refine ⟨⟨⟨?_,?_⟩,mName_ok' (by omega)⟩,ents_asc r d (seen++[q9E d]) (by omega) (fun e he=>⟨hp.1 e he,(hd e (yp _ he)).2⟩) hp.2 fun s hs'=>?_⟩
  ·simp only [idOk,yb,decide_eq_true_eq];omega
  ·refine qb2 fun hin=>?_
   obtain ⟨j,j0,j1,hj⟩:=hs _ hin;have:=mName_inj' (by omega) (by omega) hj;omega
  ·rcases yA.1 hs' with hs' | hs'
   ·obtain ⟨j,j0,j1,hj⟩:=hs s hs';exact ⟨j,j0,by omega,hj⟩
   ·rw [List.mem_singleton] at hs';exact ⟨d,by omega,by omega,hs'⟩
theorem parts_ents (l:List Nde) (i:Int) (rc:Bool) (ps:List Prt):∀ n:Nat,∃ L:List Int,(q5S l i rc ps n).map memE=L.map (fun d=>(d,q9E d))/\L.Pairwise (·<·)/\∀ d∈L,1<=d/\d<=(n:Int)
 | 0=>⟨[],rfl,List.Pairwise.nil,fun d h=>by cases h⟩
 | n + 1=>by
  obtain ⟨L,h1,h2,h3⟩:=parts_ents l i rc ps n;rw [q5S,List.map_append,h1];unfold memAt;split
  ·refine ⟨L++[((n + 1:Nat):Int)],by simp [memE,memZ],?_,fun d hd=>?_⟩
   ·rw [List.pairwise_append];refine ⟨h2,List.pairwise_singleton _ _,fun a ha b hb=>?_⟩;rw [List.mem_singleton] at hb;have:=h3 a ha;omega
   ·rcases yA.1 hd with hd | hd
    ·have:=h3 d hd; omega
    ·rw [List.mem_singleton] at hd; omega
  ·exact ⟨L,by simp,h2,fun d hd=>by have:=h3 d hd; omega⟩
theorem rwL_ents {n:Nat} {xs bs:List Mem} (h:rwL n xs bs):bs.map memE=xs.map memE:=by
 refine List.ext_getElem (by simp [h.1]) fun i h1 h2=>?_
 simp only [yx] at h1 h2;have:=h.2 i xs[i] bs[i] (y7 h2) (y7 h1);simp only [List.getElem_map,memE,this.1,this.2.1]
theorem init_no {l:List Nde} {t c:Int} (h:(q7k l t c).2=false):(q7k l t c).1=Vl.zero:=by
 unfold q7k at h ⊢;split at h
 ·rename_i hc;rw [if_pos hc];rfl
 ·cases h
theorem memZ_good (l:List Nde) (i:Int) (rc:Bool) (id:Int) (p:Prt):q0P rc (memZ l i rc id p)=true:=by
 by_cases h2:2<=p.flag % 4
 ·have h1:¬ p.flag % 4=1:=by omega
  cases rc with
  | false=>simp [q0P,memZ,Vl.same_refl]
  | true =>
   cases h3:(q7k l (tgtZ l i p.ty) (p.flag / 4)).2 with
   | false=>simp [q0P,memZ,h1,h2,h3,init_no h3,Vl.same_refl]
   | true=>simp [q0P,memZ,h1,h2,h3]
 ·cases rc <;> simp [q0P,memZ,h2,Vl.same_refl]
theorem rwM_good {n:Nat} {rc:Bool} {a b:Mem} (h:rwM n a b) (ha:q0P rc a=true):q0P rc b=true:=by
 obtain ⟨h1,h2,h3,h4⟩:=h;rcases h4 with rfl | ⟨_,_,h5,h6⟩
 ·exact ha
 ·simp only [q0P,h3,h5,h6,Vl.same_refl] at ha ⊢;cases rc <;> cases hc:a.crit <;> simp [hc] at ha ⊢
theorem mems_good {l:List Nde} {i:Int} {rc:Bool} {ps:List Prt} {n:Nat} {bs:List Mem} (h:rwL n (q3i l i rc ps) bs) (hne:rc=true\/bs≠[]):q5R rc bs=true:=by
 obtain ⟨L,h1,h2,h3⟩:=parts_ents l i rc ps 12;have hlen:bs.length<=12:=by rw [<- h.1]; exact q78 l i rc ps 12
 have hents:q1W 0 [] (bs.map memE)=true:=by
  rw [rwL_ents h,show (q3i l i rc ps).map memE=_ from h1];exact ents_asc L 0 [] (by omega) (fun d hd=>by have:=h3 d hd; omega) h2 (fun s hs=>by cases hs)
 have hall:bs.all (q0P rc)=true:=y6.2 fun b hb=>by
  obtain ⟨j,hj,rfl⟩:=yC hb;have hja:j<(q3i l i rc ps).length:=by rw [h.1]; exact hj
  have hm:=h.2 j _ _ (y7 hja) (y7 hj);obtain ⟨id,p,_,_,_,_,he⟩:=q6I 12 _ (y8 hja);refine rwM_good hm ?_;rw [he];exact memZ_good l i rc id p
 have hpos:rc=true\/0<bs.length:=hne.imp id fun h=>List.length_pos_iff.2 h
 simp only [q5R,hall,hents,Bool.true_and,yb,Bool.or_eq_true,decide_eq_true_eq];exact ⟨hpos,by omega⟩
end Go.Proofs.YtbnlmgncbgaepaaGreat
