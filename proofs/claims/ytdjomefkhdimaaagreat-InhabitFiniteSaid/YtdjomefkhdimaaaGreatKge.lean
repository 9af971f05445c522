/- Part of the proof: the machine, the code of functions, and what it computes. -/
import Derived.Test.YtdjomefkhdimaaaGreatKgd
import Derived.Lib.Zigzag
set_option linter.unusedSimpArgs false
set_option linter.unusedVariables false
set_option linter.unusedSectionVars false
set_option maxRecDepth 100000
set_option maxHeartbeats 8000000
namespace Go.Proofs.YtdjomefkhdimaaaGreat
open Go
structure Prt where
 id:Int
 ty:Int
 flag:Int
structure Nde where
 k:Int
 a:Int
 b:Int
 c:Int
 pn:Bool
 parts:List Prt
def prtC (x:Prt):List AV:=[.int .u8 x.id,.int .u8 x.ty,.int .u8 x.flag]
def ndeC (x:Nde):List AV:=[.int .u8 x.k,.int .u8 x.a,.int .u8 x.b,.int .u8 x.c,.sl x.pn (x.parts.map prtC)]
def dftC (n:Bool) (l:List Nde):List AV:=[.sl n (l.map ndeC)]
def u8 (n:Int):Prop:=0<=n/\n<=255
def Prt.ok (x:Prt):Prop:=u8 x.id/\u8 x.ty/\u8 x.flag
def Nde.ok (x:Nde):Prop:=u8 x.k/\u8 x.a/\u8 x.b/\u8 x.c/\x.parts.length<=9223372036854775807/\∀ p∈x.parts,p.ok
def Nde.kind (x:Nde):Int:=1 + x.k % 9
def Nde.low (x:Nde):Int:=x.a % 7 - 3
def Nde.high (x:Nde):Int:=x.low + x.b % 6
theorem kind_rng {x:Nde} (h:x.ok):1<=x.kind/\x.kind<=9:=by
 obtain ⟨⟨h1,h2⟩,_⟩:=h
 simp only [Nde.kind]
 omega
theorem u8_mod (n m:Int) (h:u8 n) (hm:0<m) (hm2:m<=255):n.tmod m=n % m/\IntKind.u8.wrap (n % m)=n % m:=by
 obtain ⟨h1,h2⟩:=h
 have e:=Int.tmod_eq_emod_of_nonneg h1 (b:=m)
 have g1:=Int.emod_nonneg n (b:=m) (by omega)
 have g2:=Int.emod_lt_of_pos n hm
 refine ⟨e,?_⟩
 simp only [IntKind.wrap,IntKind.bits,IntKind.signed]
 simp
 omega
theorem kind_ev (dn:Bool) (l:List Nde) (z:Int) (x:Nde) (hz:0<=z) (h:l[z.toNat]?=some x) (hx:x.ok):evA 51 [.agg (dftC dn l),.int .i64 z] (.int .i64 x.kind):=by
 refine q00 (c:=q52) rfl rfl ?_
 have g:(l.map ndeC)[z.toNat]?=some (ndeC x):=by simp [h]
 obtain ⟨e1,e2⟩:=u8_mod x.k 9 hx.1 (by omega) (by omega)
 simp only [ndeC] at g
 simp [q52,dftC,-Option.bind_some,-Int.toNat_lt,-List.map_map,List.range_succ,g,hz,e1]
 have:=hx.1
 simp only [u8] at this
 rw [IntWalk.i64_in (x.k % 9) (by omega),IntWalk.i64_in _ (by omega)]
 rfl
theorem hollow_ev (k:Int):evA 89 [.int .i64 k] (.bool (decide (7<=k))):=by
 refine q00 (c:=q40) rfl rfl ?_
 simp [q40,-Option.bind_some,-Int.toNat_lt,-List.map_map,List.range_succ]
theorem low_ev (x:Nde) (hx:x.ok):evA 53 [.agg (ndeC x)] (.int .i64 x.low):=by
 refine q00 (c:=q5F) rfl rfl ?_
 obtain ⟨e1,e2⟩:=u8_mod x.a 7 hx.2.1 (by omega) (by omega)
 simp [q5F,ndeC,-Option.bind_some,-Int.toNat_lt,-List.map_map,List.range_succ,e1]
 rw [IntWalk.i64_in (x.a % 7) (by omega),IntWalk.i64_in _ (by omega)]
 rfl
theorem high_ev (x:Nde) (hx:x.ok):evA 54 [.agg (ndeC x)] (.int .i64 x.high):=by
 refine q00 (c:=q5c) rfl rfl ?_
 obtain ⟨e1,e2⟩:=u8_mod x.b 6 hx.2.2.1 (by omega) (by omega)
 have:=low_ev x hx
 simp only [ndeC] at this
 simp [q5c,ndeC,-Option.bind_some,-Int.toNat_lt,-List.map_map,List.range_succ,e1,this]
 rw [IntWalk.i64_in (x.b % 6) (by omega),IntWalk.i64_in _ (by simp only [Nde.low]; omega)]
 rfl
def bitZ (a:Int) (i:Nat):Bool:=decide (a / 2 ^ i % 2=1)
def idl (a:Int):Nat->List Int
 | 0=>[]
 | i + 1=>idl a i++if bitZ a i then [((i + 1:Nat):Int)] else []
def idsZ (a:Int):List Int:=if idl a 6=[] then [1] else idl a 6
def q6q (n:Int):List AV:=[.int .i64 n]
theorem idl_len (a:Int):∀ i,(idl a i).length<=i
 | 0=>Nat.le_refl _
 | i + 1=>by
  have:=idl_len a i
  rw [idl,List.length_append]
  split <;> simp <;> omega
theorem els_int (l:List Int):q18 1 (l.map q6q)=true:=q1T _ _ _ fun _=>rfl
theorem ids7_ev (x:Nde) (hx:x.ok):evA 55 [.agg (ndeC x)] (.sl false ((idsZ x.a).map q6q)):=by
 refine q00 (c:=q5W) rfl rfl ?_
 obtain ⟨hk,ha,hb,hc,hp,hpp⟩:=hx
 obtain ⟨ha1,ha2⟩:=ha
 simp [q5W,ndeC,-Option.bind_some,-Int.toNat_lt,-List.map_map,List.range_succ]
 refine q0h 6 (fun i s=>(s.env 1).v=.ptr 1 1 0/\s.mem 1 1=some [⟨.int .u8 x.k,.no⟩,⟨.int .u8 x.a,.no⟩,⟨.int .u8 x.b,.no⟩,⟨.int .u8 x.c,.no⟩,⟨.sl x.pn (x.parts.map prtC),.no⟩]/\(s.env 4).v=.int .i64 i/\(s.env 3).v=.sl (idl x.a i).isEmpty ((idl x.a i).map q6q)/\(idl x.a i=[]/\(s.env 3).a=.ex\/¬ idl x.a i=[]/\(s.env 3).a=.own 19 3))
  (fun e s=>e=.exit 0/\(s.env 3).v=.sl (idl x.a 6).isEmpty ((idl x.a 6).map q6q)/\(idl x.a 6=[]/\(s.env 3).a=.ex\/¬ idl x.a 6=[]/\(s.env 3).a=.own 19 3)) (fun i hi s k h ih hk=>?_) _ _ ?_ (fun e s h=>?_)
 ·obtain ⟨e1,m1,e4,e3,an⟩:=h
  refine q04 ?_
  by_cases hlt:i<6
  ·have hlt':(i:Int)<6:=by omega
   have hsh:shN .u8 i=i:=by simp [shN,IntKind.bits]; omega
   have hy:x.a.fdiv (2 ^ i)=x.a / 2 ^ i:=Int.fdiv_eq_ediv_of_nonneg _ (Int.pow_nonneg (by omega))
   have hy0:0<=x.a / 2 ^ i:=Int.ediv_nonneg ha1 (Int.pow_nonneg (by omega))
   have hm:(x.a / 2 ^ i).tmod 2=x.a / 2 ^ i % 2:=Int.tmod_eq_emod_of_nonneg hy0
   have hwi:=q0W (i:=i) (by omega)
   have hl:=idl_len x.a i
   have hroom:q1E 8 ((idl x.a i).length + 1)=true:=by rw [q0s]; omega
   have hels:=els_int (idl x.a i)
   have hnext:idl x.a (i + 1)=idl x.a i++if bitZ x.a i then [((i + 1:Nat):Int)] else []:=rfl
   have hb:bitZ x.a i=decide (x.a / 2 ^ i % 2=1):=rfl
   generalize hI:idl x.a i=L at *
   generalize hJ:idl x.a (i + 1)=L' at *
   generalize x.a / 2 ^ i=y at *
   by_cases c:y % 2=1
   ·rcases an with ⟨a0,a3⟩ | ⟨a0,a3⟩
    ·subst a0
     have hr1:q1E 8 1=true:=by rw [q0s]; omega
     simp [q32,-Option.bind_some,-Int.toNat_lt,-List.map_map,List.range_succ,e1,m1,e4,e3,a3,hlt',hsh,hy,hm,hwi,c,hr1]
     refine ih hlt _ ⟨?_,?_,?_,?_,?_⟩ <;> simp [e1,m1,hnext,hb,c,q6q,An.strip]
    ·have hem:L.isEmpty=false:=by
      cases L with
      | nil=>exact absurd rfl a0
      | cons=>rfl
     rw [hem] at e3
     simp [q32,-Option.bind_some,-Int.toNat_lt,-List.map_map,List.range_succ,e1,m1,e4,e3,a0,a3,hlt',hsh,hy,hm,hwi,c,hroom,hels]
     refine ih hlt _ ⟨?_,?_,?_,?_,?_⟩ <;> simp [e1,m1,hnext,hb,c,q6q,An.strip]
   ·simp [q32,-Option.bind_some,-Int.toNat_lt,-List.map_map,List.range_succ,e1,m1,e4,e3,hlt',hsh,hy,hm,hwi,c]
    refine ih hlt _ ⟨?_,?_,?_,?_,?_⟩ <;> simp [e1,m1,e3,an,hnext,hb,c,q6q,An.strip]
  ·have hi6:i=6:=by omega
   subst hi6
   simp [q32,-Option.bind_some,-Int.toNat_lt,-List.map_map,List.range_succ,e4]
   exact hk _ _ ⟨rfl,by simpa using e3,by simpa using an⟩
 ·simp [idl]
 ·obtain ⟨rfl,e3,an⟩:=h
  have hl:=idl_len x.a 6
  generalize hI:idl x.a 6=L at *
  rcases an with ⟨a0,a3⟩ | ⟨a0,a3⟩
  ·subst a0
   have hr1:q1E 8 1=true:=by rw [q0s]; omega
   simp [-Option.bind_some,-Int.toNat_lt,-List.map_map,List.range_succ,e3,a3,hr1,idsZ,hI,q6q]
  ·simp [-Option.bind_some,-Int.toNat_lt,-List.map_map,List.range_succ,e3,a3,a0,idsZ,hI]
def kdAt (l:List Nde) (z:Int):Int:=match l[z.toNat]? with
 | some x=>x.kind
 | none=>0
def oks (l:List Nde):Prop:=1<=l.length/\l.length<=5/\∀ x∈l,x.ok
theorem q3N {dn:Bool} {l:List Nde} (hl:oks l) {z:Int} (h0:0<=z) (h1:z<l.length):evA 51 [.agg (dftC dn l),.int .i64 z] (.int .i64 (kdAt l z)):=by
 have hlt:z.toNat<l.length:=by omega
 have g:l[z.toNat]?=some l[z.toNat]:=List.getElem?_eq_getElem hlt
 have:=kind_ev dn l z _ h0 g (hl.2.2 _ (List.getElem_mem hlt))
 rw [kdAt,g]
 exact this
theorem kdAt_rng {l:List Nde} (hl:oks l) {z:Int} (h0:0<=z) (h1:z<l.length):1<=kdAt l z/\kdAt l z<=9:=by
 have hlt:z.toNat<l.length:=by omega
 have g:l[z.toNat]?=some l[z.toNat]:=List.getElem?_eq_getElem hlt
 rw [kdAt,g]
 exact kind_rng (hl.2.2 _ (List.getElem_mem hlt))
def isKey (k:Int):Bool:=decide (1<=k/\k<=4)
def q3h (l:List Nde) (code:Int):Nat->Nat->Int
 | 0,_=>-1
 | n + 1,k=>if isKey (kdAt l ((code + k) % l.length))=true then (code + k) % l.length else q3h l code n (k + 1)
def keyZ (l:List Nde) (code:Int):Int:=q3h l code l.length 0
theorem q78 {l:List Nde} (hl:oks l) (code:Int):∀ n k,-1<=q3h l code n k/\q3h l code n k<l.length
 | 0,k=>by have:=hl.1; simp only [q3h]; omega
 | n + 1,k=>by
  have hp:=hl.1
  have h1:=Int.emod_nonneg (code + k) (b:=(l.length:Int)) (by omega)
  have h2:=Int.emod_lt_of_pos (code + k) (b:=(l.length:Int)) (by omega)
  have:=q78 hl code n (k + 1)
  simp only [q3h]
  split <;> omega
theorem key_ev (dn:Bool) (l:List Nde) (hl:oks l) (code:Int) (hc:u8 code):evA 57 [.agg (dftC dn l),.int .u8 code] (.int .i64 (keyZ l code)):=by
 refine q00 (c:=q5J) rfl rfl ?_
 obtain ⟨hc0,hc1⟩:=hc
 have hN:=hl.1
 have hN5:=hl.2.1
 have hkd:=fun z h0 h1=>q3N (dn:=dn) hl (z:=z) h0 h1
 simp only [evA,dftC] at hkd ⊢
 simp [q5J,-Option.bind_some,-Int.toNat_lt,-List.map_map,List.range_succ]
 refine q0h l.length (fun i s=>(s.env 2).v=.ptr 2 1 0/\s.mem 2 1=some [⟨.sl dn (l.map ndeC),.no⟩]/\(s.env 1).v=.int .u8 code/\(s.env 5).v=.int .i64 l.length/\(s.env 6).v=.int .i64 i/\q3h l code (l.length - i) i=keyZ l code)
  (fun e s=>(e=.exit 0/\keyZ l code=-1)\/(e=.ret/\(s.env 4).v=.int .i64 (keyZ l code))) (fun i hi s k h ih hk=>?_) _ _ ?_ (fun e s h=>?_)
 ·obtain ⟨e2,m2,e1,e5,e6,hs⟩:=h
  refine q04 ?_
  by_cases hlt:i<l.length
  ·have hlt':(i:Int)<l.length:=by omega
   have hwi:=q0W (i:=i) (by omega)
   have hwc:IntKind.i64.wrap code=code:=IntWalk.i64_in _ (by omega)
   have hwa:IntKind.i64.wrap (code + i)=code + i:=IntWalk.i64_in _ (by omega)
   have hm:(code + (i:Int)).tmod l.length=(code + i) % l.length:=Int.tmod_eq_emod_of_nonneg (by omega)
   have hz0:=Int.emod_nonneg (code + i) (b:=(l.length:Int)) (by omega)
   have hz1:=Int.emod_lt_of_pos (code + i) (b:=(l.length:Int)) (by omega)
   have hlen0:¬ (l.length:Int)=0:=by omega
   have hkk:=hkd _ hz0 hz1
   rw [show l.length - i=l.length - (i + 1) + 1 from by omega,q3h] at hs
   generalize (code + (i:Int)) % l.length=z at *
   have hkey:=keykind_ev (kdAt l z)
   rw [show decide (1<=kdAt l z/\kdAt l z<=4)=isKey (kdAt l z) from rfl] at hkey
   obtain ⟨N,hNN⟩:∃ N:Int,N=l.length:=⟨_,rfl⟩
   rw [<- hNN] at e5 hlt' hm hlen0
   cases hb:isKey (kdAt l z) with
   | true =>
    rw [hb] at hkey
    rw [if_pos hb] at hs
    simp [q3Y,-Option.bind_some,-Int.toNat_lt,-List.map_map,List.range_succ,e2,m2,e1,e5,e6,hlt',hwc,hwa,hm,hlen0,hkk,hkey]
    exact hk _ _ (.inr ⟨rfl,by simp [hs]⟩)
   | false =>
    rw [hb] at hkey
    rw [hb,if_neg (by decide)] at hs
    simp [q3Y,-Option.bind_some,-Int.toNat_lt,-List.map_map,List.range_succ,e2,m2,e1,e5,e6,hlt',hwc,hwa,hm,hlen0,hkk,hkey,hwi]
    refine ih hlt _ ⟨?_,?_,?_,?_,?_,hs⟩ <;> simp [e2,m2,e1,e5,hNN]
  ·have hlt':¬ (i:Int)<l.length:=by omega
   simp [q3Y,-Option.bind_some,-Int.toNat_lt,-List.map_map,List.range_succ,e5,e6,hlt']
   refine hk _ _ (.inl ⟨rfl,?_⟩)
   rw [<- hs,show l.length - i=0 from by omega,q3h]
 ·simp [keyZ]
 ·rcases h with ⟨rfl,h1⟩ | ⟨rfl,h1⟩ <;> simp [-Option.bind_some,-Int.toNat_lt,-List.map_map,List.range_succ,h1]
def q4h (l:List Nde):Nat->Nat->Int
 | 0,_=>-1
 | n + 1,k=>if 7<=kdAt l k then k else q4h l n (k + 1)
def tgtZ (l:List Nde) (i code:Int):Int:=if 7<=kdAt l (code % l.length)\/code % l.length<i then code % l.length else if 0<i then code % l.length % i else q4h l l.length 0
theorem holFrom_rng {l:List Nde} (hl:oks l):∀ n k,n + k<=l.length->-1<=q4h l n k/\q4h l n k<l.length
 | 0,k,_=>by have:=hl.1; simp only [q4h]; omega
 | n + 1,k,h=>by
  have:=holFrom_rng hl n (k + 1) (by omega)
  simp only [q4h]
  split <;> omega
theorem q9d {l:List Nde} (hl:oks l) (i code:Int) (hi:i<l.length):-1<=tgtZ l i code/\tgtZ l i code<l.length:=by
 have hp:=hl.1
 have h1:=Int.emod_nonneg code (b:=(l.length:Int)) (by omega)
 have h2:=Int.emod_lt_of_pos code (b:=(l.length:Int)) (by omega)
 have h3:=holFrom_rng hl l.length 0 (by omega)
 simp only [tgtZ]
 split
 ·omega
 ·split
  ·rename_i h
   have h4:=Int.emod_nonneg (code % l.length) (b:=i) (by omega)
   have h5:=Int.emod_lt_of_pos (code % l.length) h
   omega
  ·exact h3
theorem target_ev (dn:Bool) (l:List Nde) (hl:oks l) (i0:Int) (hi0:0<=i0) (hi1:i0<l.length) (code:Int) (hc:u8 code):evA 70 [.agg (dftC dn l),.int .i64 i0,.int .u8 code] (.int .i64 (tgtZ l i0 code)):=by
 refine q00 (c:=q1X) rfl rfl ?_
 obtain ⟨hc0,hc1⟩:=hc
 have hN:=hl.1
 have hN5:=hl.2.1
 have hkd:=fun z h0 h1=>q3N (dn:=dn) hl (z:=z) h0 h1
 simp only [evA,dftC] at hkd ⊢
 have hz0:=Int.emod_nonneg code (b:=(l.length:Int)) (by omega)
 have hz1:=Int.emod_lt_of_pos code (b:=(l.length:Int)) (by omega)
 have hwc:IntKind.i64.wrap code=code:=IntWalk.i64_in _ (by omega)
 have hm:code.tmod l.length=code % l.length:=Int.tmod_eq_emod_of_nonneg (by omega)
 have hlen0:¬ (l.length:Int)=0:=by omega
 have hl0:¬ l=[]:=by intro e; rw [e] at hN; simp at hN
 have hkk:=hkd _ hz0 hz1
 unfold tgtZ
 generalize code % (l.length:Int)=z at *
 have hh:=hollow_ev (kdAt l z)
 have hmi:0<i0->z.tmod i0=z % i0:=fun _=>Int.tmod_eq_emod_of_nonneg hz0
 by_cases c1:7<=kdAt l z
 ·simp [q1X,-Option.bind_some,-Int.toNat_lt,-List.map_map,List.range_succ,hwc,hm,hl0,hkk,hh,c1]
 ·rw [decide_eq_false c1] at hh
  by_cases c2:z<i0
  ·simp [q1X,-Option.bind_some,-Int.toNat_lt,-List.map_map,List.range_succ,hwc,hm,hl0,hkk,hh,c1,c2]
  ·by_cases c3:0<i0
   ·simp [q1X,-Option.bind_some,-Int.toNat_lt,-List.map_map,List.range_succ,hwc,hm,hl0,hkk,hh,c1,c2,c3,hmi c3,show ¬ i0=0 from by omega]
   ·simp [q1X,-Option.bind_some,-Int.toNat_lt,-List.map_map,List.range_succ,hwc,hm,hl0,hkk,hh,c1,c2,c3]
    clear hkk hh c1 c2
    refine q0h l.length (fun i s=>(s.env 3).v=.ptr 3 1 0/\s.mem 3 1=some [⟨.sl dn (l.map ndeC),.no⟩]/\(s.env 7).v=.int .i64 l.length/\(s.env 9).v=.int .i64 i/\q4h l (l.length - i) i=q4h l l.length 0)
     (fun e s=>(e=.exit 0/\q4h l l.length 0=-1)\/(e=.ret/\(s.env 6).v=.int .i64 (q4h l l.length 0))) (fun i hi s k h ih hk=>?_) _ _ ?_ (fun e s h=>?_)
    ·obtain ⟨e3,m3,e7,e9,hs⟩:=h
     refine q04 ?_
     by_cases hlt:i<l.length
     ·have hlt':(i:Int)<l.length:=by omega
      have hwi:=q0W (i:=i) (by omega)
      have hkk:=hkd i (by omega) hlt'
      rw [show l.length - i=l.length - (i + 1) + 1 from by omega,q4h] at hs
      have hh:=hollow_ev (kdAt l i)
      by_cases hb:7<=kdAt l i
      ·rw [decide_eq_true hb] at hh
       rw [if_pos hb] at hs
       simp [q2J,-Option.bind_some,-Int.toNat_lt,-List.map_map,List.range_succ,e3,m3,e7,e9,hlt,hkk,hh]
       exact hk _ _ (.inr ⟨rfl,by simp [hs]⟩)
      ·rw [decide_eq_false hb] at hh
       rw [if_neg hb] at hs
       simp [q2J,-Option.bind_some,-Int.toNat_lt,-List.map_map,List.range_succ,e3,m3,e7,e9,hlt,hkk,hh,hwi]
       refine ih hlt _ ⟨?_,?_,?_,?_,hs⟩ <;> simp [e3,m3,e7]
     ·have hlt':¬ (i:Int)<l.length:=by omega
      simp [q2J,-Option.bind_some,-Int.toNat_lt,-List.map_map,List.range_succ,e7,e9,hlt]
      refine hk _ _ (.inl ⟨rfl,?_⟩)
      rw [<- hs,show l.length - i=0 from by omega,q4h]
    ·simp
    ·rcases h with ⟨rfl,h1⟩ | ⟨rfl,h1⟩ <;> simp [-Option.bind_some,-Int.toNat_lt,-List.map_map,List.range_succ,h1]
section
set_option maxHeartbeats 2000000
def Vl.of (k:Int) (b:Bool) (i:Int) (s:ByteArray) (d:Int):Vl:=.mk k b i s d true [] true [] true []
theorem q5Q (k:Int) (b:Bool) (i:Int) (s:ByteArray) (d:Int):valC (.of k b i s d)=[.int .i64 k,.bool b,.int .i64 i,.str s,.int .i64 d,.sl true [],.sl true [],.sl true []]:=by
 rw [q03]
 rfl
def ndAt (l:List Nde) (z:Int):Nde:=match l[z.toNat]? with
 | some x=>x
 | none=>⟨0,0,0,0,true,[]⟩
def inK (l:List Nde) (t:Int):Int:=if kdAt l t=8/\keyZ l 0<0 then 7 else kdAt l t
def idAt (a code:Int):Int:=(idsZ a)[(code % (idsZ a).length).toNat]?.getD 0
def q6r (l:List Nde) (t code:Int):Vl × Bool :=
 if kdAt l t=5\/kdAt l t=6 then (.of 0 false 0 ⟨#[]⟩ 0,false) else
 (.of (inK l t) (decide (kdAt l t=1/\code % 2=1)) (if kdAt l t=2 then (ndAt l t).low + code % ((ndAt l t).b % 6 + 1) else 0) (if kdAt l t=3/\0<(ndAt l t).a % 4/\code % 2=1 then ⟨#[97]⟩ else ⟨#[]⟩) (if kdAt l t=4 then idAt (ndAt l t).a code else 0),true)
theorem q9h (a:Int):1<=(idsZ a).length/\(idsZ a).length<=6:=by
 have:=idl_len a 6
 unfold idsZ
 split
 ·simp
 ·rename_i h
  refine ⟨?_,this⟩
  cases h2:idl a 6 with
  | nil=>exact absurd h2 h
  | cons=>simp
theorem initial_ev (dn:Bool) (l:List Nde) (hl:oks l) (t:Int) (ht0:0<=t) (ht1:t<l.length) (code:Int) (hc:u8 code):evA 71 [.agg (dftC dn l),.int .i64 t,.int .u8 code] (.tup [.agg (valC (q6r l t code).1),.bool (q6r l t code).2]):=by
 refine q00 (c:=q0E) rfl rfl ?_
 have hkd:=q3N (dn:=dn) hl ht0 ht1
 have hkr:=kdAt_rng hl ht0 ht1
 have hkey:=key_ev dn l hl 0 ⟨by omega,by omega⟩
 have hlt:t.toNat<l.length:=by omega
 have g:l[t.toNat]?=some l[t.toNat]:=List.getElem?_eq_getElem hlt
 have hx:(ndAt l t).ok:=by rw [ndAt,g]; exact hl.2.2 _ (List.getElem_mem hlt)
 have gm:(l.map ndeC)[t.toNat]?=some (ndeC (ndAt l t)):=by rw [ndAt,g]; simp [g]
 obtain ⟨hc0,hc1⟩:=hc
 unfold q6r inK
 generalize ndAt l t=x at *
 generalize kdAt l t=kk at *
 have hlow:=low_ev x hx
 have hhigh:=high_ev x hx
 have hids:=ids7_ev x hx
 have hlr:-3<=x.low/\x.low<=3:=by have:=hx.2.1; simp only [Nde.low,u8] at *; omega
 have hhr:x.low<=x.high/\x.high<=x.low + 5:=by have:=hx.2.2.1; simp only [Nde.high,u8] at *; omega
 have hd:x.high - x.low + 1=x.b % 6 + 1:=by simp only [Nde.high]; omega
 have hwc:IntKind.i64.wrap code=code:=IntWalk.i64_in _ (by omega)
 have hws:IntKind.i64.wrap (x.high - x.low)=x.high - x.low:=IntWalk.i64_in _ (by omega)
 have hws1:IntKind.i64.wrap (x.high - x.low + 1)=x.high - x.low + 1:=IntWalk.i64_in _ (by omega)
 have hm:code.tmod (x.high - x.low + 1)=code % (x.b % 6 + 1):=by rw [hd]; exact Int.tmod_eq_emod_of_nonneg hc0
 have hmz:=Int.emod_nonneg code (b:=x.b % 6 + 1) (by omega)
 have hml:=Int.emod_lt_of_pos code (b:=x.b % 6 + 1) (by omega)
 have hwl:IntKind.i64.wrap (x.low + code % (x.b % 6 + 1))=x.low + code % (x.b % 6 + 1):=IntWalk.i64_in _ (by omega)
 have hne:¬ x.high - x.low + 1=0:=by omega
 have hm2:code.tmod 2=code % 2:=Int.tmod_eq_emod_of_nonneg hc0
 have ha4:x.a.tmod 4=x.a % 4:=Int.tmod_eq_emod_of_nonneg hx.2.1.1
 simp only [evA,dftC,ndeC] at hkd hkey gm hlow hhigh hids ⊢
 have hk:kk=1\/kk=2\/kk=3\/kk=4\/kk=5\/kk=6\/kk=7\/kk=8\/kk=9:=by omega
 rcases hk with rfl | rfl | rfl | rfl | rfl | rfl | rfl | rfl | rfl
 ·simp [q0E,-Option.bind_some,-Int.toNat_lt,-List.map_map,List.range_succ,gm,ht0,hkd,hm2,q5Q]
 ·generalize code % (x.b % 6 + 1)=y at *
  simp [q0E,-Option.bind_some,-Int.toNat_lt,-List.map_map,List.range_succ,gm,ht0,hkd,q5Q,hlow,hhigh,hwc,hws,hws1,hm,hne,hwl]
 ·by_cases c1:0<x.a % 4 <;> by_cases c2:code % 2=1 <;> simp [q0E,-Option.bind_some,-Int.toNat_lt,-List.map_map,List.range_succ,gm,ht0,hkd,hm2,ha4,c1,c2,q5Q]
 ·have hil:=q9h x.a
  have hmi:code.tmod (idsZ x.a).length=code % (idsZ x.a).length:=Int.tmod_eq_emod_of_nonneg hc0
  have hz0:=Int.emod_nonneg code (b:=((idsZ x.a).length:Int)) (by omega)
  have hz1:=Int.emod_lt_of_pos code (b:=((idsZ x.a).length:Int)) (by omega)
  have hl0:¬ ((idsZ x.a).length:Int)=0:=by omega
  unfold idAt
  generalize code % ((idsZ x.a).length:Int)=z at *
  have gz:(idsZ x.a)[z.toNat]?=some (idsZ x.a)[z.toNat]:=List.getElem?_eq_getElem (by omega)
  have gi:((idsZ x.a).map q6q)[z.toNat]?=some [.int .i64 (idsZ x.a)[z.toNat]]:=by rw [List.getElem?_map,gz]; rfl
  rw [gz]
  generalize (idsZ x.a)[z.toNat]=y at *
  have hlm:((idsZ x.a).map q6q).length=(idsZ x.a).length:=by simp
  generalize (idsZ x.a).map q6q=M at *
  obtain ⟨N,hN⟩:∃ N:Int,N=(idsZ x.a).length:=⟨_,rfl⟩
  rw [<- hN] at hmi hl0
  simp [q0E,-Option.bind_some,-Int.toNat_lt,-List.map_map,List.range_succ,gm,ht0,hkd,q5Q,hids,hwc,hlm,<- hN,hmi,hl0,hz0,gi]
 ·simp [q0E,-Option.bind_some,-Int.toNat_lt,-List.map_map,List.range_succ,gm,ht0,hkd,q5Q]
 ·simp [q0E,-Option.bind_some,-Int.toNat_lt,-List.map_map,List.range_succ,gm,ht0,hkd,q5Q]
 ·simp [q0E,-Option.bind_some,-Int.toNat_lt,-List.map_map,List.range_succ,gm,ht0,hkd,q5Q]
 ·by_cases c1:keyZ l 0<0 <;> simp [q0E,-Option.bind_some,-Int.toNat_lt,-List.map_map,List.range_succ,gm,ht0,hkd,hkey,c1,q5Q]
 ·simp [q0E,-Option.bind_some,-Int.toNat_lt,-List.map_map,List.range_succ,gm,ht0,hkd,q5Q]
end
def low0 (m:Nat) (v:AV):Prop:=∀ t n,m<=n->v.kill0 t n=v
def lowV (m:Nat) (v:AV):Prop:=∀ t n,m<=n->v.kill t n=v
theorem q46 {m m':Nat} (h:m<=m') {v:AV} (hv:lowV m v):lowV m' v:=fun t n hn=>hv t n (Nat.le_trans h hn)
theorem low0_ptr {m t n o:Nat} (h:n<m):low0 m (.ptr t n o):=fun t' n' h'=>by simp only [AV.kill0]; rw [if_neg (by omega)]
theorem low0_ref {m t n z o l c:Nat} (h:n<m):low0 m (.ref t n z o l c):=fun t' n' h'=>by simp only [AV.kill0]; rw [if_neg (by omega)]
theorem q5s {m:Nat} {v:AV} (h:v.free0=true):low0 m v:=fun t n _=>kill0_free h t n
theorem q6u {m:Nat} {v:AV} (h:v.free=true):lowV m v:=fun t n _=>kill_free h t n
theorem lowV_of {m:Nat} {v:AV} (h:low0 m v):(v.leaf=true)->lowV m v:=fun hl t n hn=>by
 have:=h t n hn
 cases v <;> first | exact this | (simp [AV.leaf] at hl; done)
theorem q7o {m:Nat} {cs:List AV} (h:∀ c∈cs,low0 m c):lowV m (.agg cs):=fun t n hn=>by
 have:cs.map (AV.kill0 t n)=cs.map id:=List.map_congr_left fun c hc=>h c hc t n hn
 rw [List.map_id] at this
 exact congrArg AV.agg this
theorem q1i {m t n o:Nat} (h:n<m):lowV m (.ptr t n o):=low0_ptr h
theorem q7s {m t n z o l c:Nat} (h:n<m):lowV m (.ref t n z o l c):=low0_ref h
theorem lowV_kill {m t n:Nat} (hn:m<=n) {v:AV} (hv:lowV m v):v.kill t n=v:=hv t n hn
theorem kill0_comm (v:AV) (t n t' n':Nat):(v.kill0 t n).kill0 t' n'=(v.kill0 t' n').kill0 t n:=by
 cases v with
 | ptr a b o=>by_cases h1:(a=t/\b=n) <;> by_cases h2:(a=t'/\b=n') <;> first | (simp only [AV.kill0,if_pos h1,if_pos h2]; done) | (simp only [AV.kill0,if_pos h1,if_neg h2]; done) | (simp only [AV.kill0,if_neg h1,if_pos h2]; done) | (simp only [AV.kill0,if_neg h1,if_neg h2]; done)
 | ref a b z o l c=>by_cases h1:(a=t/\b=n) <;> by_cases h2:(a=t'/\b=n') <;> first | (simp only [AV.kill0,if_pos h1,if_pos h2]; done) | (simp only [AV.kill0,if_pos h1,if_neg h2]; done) | (simp only [AV.kill0,if_neg h1,if_pos h2]; done) | (simp only [AV.kill0,if_neg h1,if_neg h2]; done)
 | mp a b=>by_cases h1:(a=t/\b=n) <;> by_cases h2:(a=t'/\b=n') <;> first | (simp only [AV.kill0,if_pos h1,if_pos h2]; done) | (simp only [AV.kill0,if_pos h1,if_neg h2]; done) | (simp only [AV.kill0,if_neg h1,if_pos h2]; done) | (simp only [AV.kill0,if_neg h1,if_neg h2]; done)
 | _=>rfl
theorem q79 (l:List AV) (t n t' n':Nat):(l.map (AV.kill0 t n)).map (AV.kill0 t' n')=(l.map (AV.kill0 t' n')).map (AV.kill0 t n):=by
 rw [List.map_map,List.map_map]
 exact List.map_congr_left fun x _=>kill0_comm x t n t' n'
theorem kill1_comm (v:AV) (t n t' n':Nat):(v.kill1 t n).kill1 t' n'=(v.kill1 t' n').kill1 t n:=by
 cases v with
 | agg cs=>exact congrArg AV.agg (q79 cs t n t' n')
 | ptr a b o=>by_cases h1:(a=t/\b=n) <;> by_cases h2:(a=t'/\b=n') <;> first | (simp only [AV.kill1,AV.kill0,if_pos h1,if_pos h2]; done) | (simp only [AV.kill1,AV.kill0,if_pos h1,if_neg h2]; done) | (simp only [AV.kill1,AV.kill0,if_neg h1,if_pos h2]; done) | (simp only [AV.kill1,AV.kill0,if_neg h1,if_neg h2]; done)
 | ref a b z o l c=>by_cases h1:(a=t/\b=n) <;> by_cases h2:(a=t'/\b=n') <;> first | (simp only [AV.kill1,AV.kill0,if_pos h1,if_pos h2]; done) | (simp only [AV.kill1,AV.kill0,if_pos h1,if_neg h2]; done) | (simp only [AV.kill1,AV.kill0,if_neg h1,if_pos h2]; done) | (simp only [AV.kill1,AV.kill0,if_neg h1,if_neg h2]; done)
 | mp a b=>by_cases h1:(a=t/\b=n) <;> by_cases h2:(a=t'/\b=n') <;> first | (simp only [AV.kill1,AV.kill0,if_pos h1,if_pos h2]; done) | (simp only [AV.kill1,AV.kill0,if_pos h1,if_neg h2]; done) | (simp only [AV.kill1,AV.kill0,if_neg h1,if_pos h2]; done) | (simp only [AV.kill1,AV.kill0,if_neg h1,if_neg h2]; done)
 | _=>rfl
theorem kill_comm (v:AV) (t n t' n':Nat):(v.kill t n).kill t' n'=(v.kill t' n').kill t n:=by
 cases v with
 | agg cs=>exact congrArg AV.agg (q79 cs t n t' n')
 | fn f cs=>exact congrArg (AV.fn f) (q79 cs t n t' n')
 | tup vs =>
  refine congrArg AV.tup ?_
  rw [List.map_map,List.map_map]
  exact List.map_congr_left fun x _=>kill1_comm x t n t' n'
 | ptr a b o=>by_cases h1:(a=t/\b=n) <;> by_cases h2:(a=t'/\b=n') <;> first | (simp only [AV.kill,AV.kill0,if_pos h1,if_pos h2]; done) | (simp only [AV.kill,AV.kill0,if_pos h1,if_neg h2]; done) | (simp only [AV.kill,AV.kill0,if_neg h1,if_pos h2]; done) | (simp only [AV.kill,AV.kill0,if_neg h1,if_neg h2]; done)
 | ref a b z o l c=>by_cases h1:(a=t/\b=n) <;> by_cases h2:(a=t'/\b=n') <;> first | (simp only [AV.kill,AV.kill0,if_pos h1,if_pos h2]; done) | (simp only [AV.kill,AV.kill0,if_pos h1,if_neg h2]; done) | (simp only [AV.kill,AV.kill0,if_neg h1,if_pos h2]; done) | (simp only [AV.kill,AV.kill0,if_neg h1,if_neg h2]; done)
 | mp a b=>by_cases h1:(a=t/\b=n) <;> by_cases h2:(a=t'/\b=n') <;> first | (simp only [AV.kill,AV.kill0,if_pos h1,if_pos h2]; done) | (simp only [AV.kill,AV.kill0,if_pos h1,if_neg h2]; done) | (simp only [AV.kill,AV.kill0,if_neg h1,if_pos h2]; done) | (simp only [AV.kill,AV.kill0,if_neg h1,if_neg h2]; done)
 | _=>rfl
theorem lowV_killed {m t n:Nat} {v:AV} (hv:lowV m v):lowV m (v.kill t n):=fun t' n' h=>by rw [kill_comm,hv t' n' h]
def LowE (m:Nat) (e:Nat->Slot):Prop:=∀ t,lowV m (e t).v
def LowM (m:Nat) (M:Nat->Nat->Option (List Slot)):Prop:=∀ t n r,M t n=some r->∀ x∈r,lowV m x.v
def q27 (m:Nat) (M0 M:Nat->Nat->Option (List Slot)):Prop:=∀ t n,n<m->M t n=M0 t n
theorem LowE.put {m:Nat} {e:Nat->Slot} {d:Nat} {x:Slot} (h:LowE m e) (hx:lowV m x.v):LowE m (putE e d x):=fun t=>by
 rw [q2V]
 split
 ·exact hx
 ·exact h t
theorem LowE.mono {m m':Nat} (hm:m<=m') {e:Nat->Slot} (h:LowE m e):LowE m' e:=fun t=>q46 hm (h t)
theorem LowE.kill {m:Nat} {e:Nat->Slot} (h:LowE m e) {t n:Nat}:LowE m (killE t n e):=fun j=>by
 rw [q0r,Slot.kill_v]
 exact lowV_killed (h j)
theorem LowE.same {m:Nat} {e:Nat->Slot} (h:LowE m e) {t n:Nat} (hn:m<=n):killE t n e=e:=funext fun j=>by
 rw [q0r]
 show (⟨(e j).v.kill t n,(e j).a⟩:Slot)=e j
 rw [lowV_kill hn (h j)]
theorem LowM.set {m:Nat} {M:Nat->Nat->Option (List Slot)} {t n:Nat} {r:List Slot} (h:LowM m M) (hr:∀ x∈r,lowV m x.v):LowM m (setM M t n r):=fun t' n' r' he=>by
 rw [q0t] at he
 split at he
 ·injection he with he; subst he; exact hr
 ·exact h t' n' r' he
theorem LowM.mono {m m':Nat} (hm:m<=m') {M:Nat->Nat->Option (List Slot)} (h:LowM m M):LowM m' M:=fun t n r he x hx=>q46 hm (h t n r he x hx)
theorem LowM.kill {m:Nat} {M:Nat->Nat->Option (List Slot)} (h:LowM m M) {t n:Nat}:LowM m (killM t n M):=fun t' n' r' he x hx=>by
 rw [q0x] at he
 split at he
 ·cases he
 ·obtain ⟨r,hr,rfl⟩:=Option.map_eq_some_iff.1 he
  obtain ⟨y,hy,rfl⟩:=List.mem_map.1 hx
  rw [Slot.kill_v]
  exact lowV_killed (h t' n' r hr y hy)
theorem q27.refl {m:Nat} {M:Nat->Nat->Option (List Slot)}:q27 m M M:=fun _ _ _=>rfl
theorem q27.set {m:Nat} {M0 M:Nat->Nat->Option (List Slot)} {t n:Nat} {r:List Slot} (h:q27 m M0 M) (hn:m<=n):q27 m M0 (setM M t n r):=fun t' n' h'=>by
 rw [q0t,if_neg (by omega)]
 exact h t' n' h'
theorem q27.kill {m:Nat} {M0 M:Nat->Nat->Option (List Slot)} (h:q27 m M0 M) (h0:LowM m M0) {t n:Nat} (hn:m<=n):q27 m M0 (killM t n M):=fun t' n' h'=>by
 rw [q0x,if_neg (by omega),h t' n' h']
 cases hr:M0 t' n' with
 | none=>rfl
 | some r =>
  refine congrArg some ?_
  have:r.map (Slot.kill t n)=r.map id:=List.map_congr_left fun x hx=>by
   show (⟨x.v.kill t n,x.a⟩:Slot)=x
   rw [lowV_kill hn (h0 t' n' r hr x hx)]
  rwa [List.map_id] at this
theorem low_row {m:Nat} {l:List (List AV)} (h:∀ c∈l,∀ v∈c,low0 m v) (h2:∀ c∈l,∀ v∈c,v.leaf=true):∀ x∈q0f l,lowV m x.v:=fun x hx=>by
 obtain ⟨v,hv,rfl⟩:=List.mem_map.1 hx
 obtain ⟨c,hc,hv⟩:=List.mem_flatten.1 hv
 exact lowV_of (h c hc v hv) (h2 c hc v hv)
theorem free0_leaf {v:AV} (h:v.free0=true):v.leaf=true:=by
 cases v <;> first | rfl | (simp [AV.free0] at h; done)
theorem q1U {m:Nat} {l:List (List AV)} (h:q2e l=true):∀ x∈q0f l,lowV m x.v :=
 low_row (fun c hc v hv=>q5s (List.all_eq_true.1 (List.all_eq_true.1 h c hc) v hv)) (fun c hc v hv=>free0_leaf (List.all_eq_true.1 (List.all_eq_true.1 h c hc) v hv))
structure Calm (m:Nat) (s0 s:MSt):Prop where
 mem:q27 m s0.mem s.mem
 gh:s.gh=s0.gh
 obj:s.obj=s0.obj
 next:m<=s.next
 low:LowM s.next s.mem
section
set_option maxHeartbeats 4000000
def q80 (id:Int):ByteArray:=⟨#[109]⟩++Utf8.encode (97 + id)
def q6d (l:List Nde) (i id:Int) (p:Prt):Bool:=decide (1 + p.id % 12=id/\0<=tgtZ l i p.ty)
def memZ (l:List Nde) (i:Int) (rc:Bool) (id:Int) (p:Prt):Mem :=
 ⟨id,q80 id,tgtZ l i p.ty,rc&&decide (p.flag % 4=1),rc&&decide (2<=p.flag % 4)&&(q6r l (tgtZ l i p.ty) (p.flag / 4)).2,if (rc&&decide (2<=p.flag % 4))=true then (q6r l (tgtZ l i p.ty) (p.flag / 4)).1 else Vl.zero⟩
def memAt (l:List Nde) (i:Int) (rc:Bool) (id:Int) (ps:List Prt):List Mem:=match ps.find? (q6d l i id) with
 | some p=>[memZ l i rc id p]
 | none=>[]
def q4S (l:List Nde) (i:Int) (rc:Bool) (ps:List Prt):Nat->List Mem
 | 0=>[]
 | n + 1=>q4S l i rc ps n++memAt l i rc ((n + 1:Nat):Int) ps
def q2E (l:List Nde) (i:Int) (rc:Bool) (ps:List Prt):List Mem:=q4S l i rc ps 12
theorem memAt_len (l:List Nde) (i:Int) (rc:Bool) (id:Int) (ps:List Prt):(memAt l i rc id ps).length<=1:=by
 unfold memAt
 split <;> simp
theorem q5L (l:List Nde) (i:Int) (rc:Bool) (ps:List Prt):∀ n,(q4S l i rc ps n).length<=n
 | 0=>Nat.le_refl _
 | n + 1=>by
  have:=q5L l i rc ps n
  have:=memAt_len l i rc ((n + 1:Nat):Int) ps
  rw [q4S,List.length_append]
  omega
def ListI (n0:Nat) (ms:List Mem) (x:Slot) (s:MSt):Prop :=
 (ms=[]/\x.v=.sl true []/\x.a=.ex)\/∃ N,ms≠[]/\n0<=N/\N<s.next/\x.v=.ref 88 N 13 0 ms.length ms.length/\s.mem 88 N=some (q0f (ms.map memC))
structure q66 (n0:Nat) (s0:MSt) (dn:Bool) (l:List Nde) (i0:Int) (rc:Bool) (x:Nde) (id:Int) (ms:List Mem) (s:MSt):Prop where
 e1:(s.env 1).v=.int .i64 i0
 e2:(s.env 2).v=.bool rc
 e3:(s.env 3).v=.ptr 3 n0 0
 m3:s.mem 3 n0=some [⟨.sl dn (l.map ndeC),.no⟩]
 e7:(s.env 7).v=.ptr 7 (n0 + 1) 0
 m7:s.mem 7 (n0 + 1)=some [⟨.int .u8 x.k,.no⟩,⟨.int .u8 x.a,.no⟩,⟨.int .u8 x.b,.no⟩,⟨.int .u8 x.c,.no⟩,⟨.sl x.pn (x.parts.map prtC),.no⟩]
 e9:(s.env 9).v=.int .i64 id
 lst:ListI n0 ms (s.env 8) s
 calm:Calm n0 s0 s
 lt:n0 + 1<s.next
theorem ListI.of {n0:Nat} {ms:List Mem} {x x':Slot} {s s':MSt} (h:ListI n0 ms x s) (hx:x'=x) (hm:∀ N,s'.mem 88 N=s.mem 88 N) (hn:s.next<=s'.next):ListI n0 ms x' s':=by
 subst hx
 rcases h with h | ⟨N,h1,h2,h3,h4,h5⟩
 ·exact .inl h
 ·exact .inr ⟨N,h1,h2,Nat.lt_of_lt_of_le h3 hn,h4,(hm N).trans h5⟩
theorem q05 {m:Nat} {r:List Slot} (h:r.all (fun x=>x.v.free)=true):∀ x∈r,lowV m x.v:=fun x hx=>q6u (List.all_eq_true.1 h x hx)
theorem enc_size (n:Int):(Utf8.encode n).size<=4:=by
 unfold Utf8.encode
 dsimp only
 generalize (if Utf8.valid n=true then n.toNat else Utf8.runeError)=c
 split
 ·exact (by decide:(1:Nat)<=4)
 ·split
  ·exact (by decide:(2:Nat)<=4)
  ·split
   ·exact (by decide:(3:Nat)<=4)
   ·exact (by decide:(4:Nat)<=4)
theorem i32_in (n:Int) (h:-2147483648<=n/\n<=2147483647):IntKind.i32.wrap n=n:=by
 simp [IntKind.wrap,IntKind.bits,IntKind.signed]
 omega
theorem parts_in {r:RV} {n0:Nat} {s0:MSt} {dn:Bool} {l:List Nde} (hl:oks l) {i0:Int} (hi0:0<=i0) (hi1:i0<l.length) {rc:Bool} {x:Nde} (hx:x.ok) (hM:LowM n0 s0.mem) (hG:LowE n0 s0.gh) {id:Int} (hid:1<=id/\id<=12) {ms:List Mem} (hms:ms.length<=12) (s:MSt) (k:Ex->MSt->Option RV) (h:q66 n0 s0 dn l i0 rc x id ms s) (h10:(s.env 10).v=.int .i64 0)
  (hk:∀ s',q66 n0 s0 dn l i0 rc x id (ms++memAt l i0 rc id x.parts) s'->k (.exit 2) s'=some r):evL allT q02 q0o s k=some r:=by
 refine q0h x.parts.length (fun j s=>q66 n0 s0 dn l i0 rc x id ms s/\(s.env 10).v=.int .i64 j/\(x.parts.drop j).find? (q6d l i0 id)=x.parts.find? (q6d l i0 id))
  (fun e s=>e=.exit 2/\q66 n0 s0 dn l i0 rc x id (ms++memAt l i0 rc id x.parts) s) (fun j hj s k h ih hk=>?_) s k ⟨h,by simpa using h10,rfl⟩ (fun e s h=>by obtain ⟨rfl,h⟩:=h; exact hk s h)
 obtain ⟨⟨e1,e2,e3,m3,e7,m7,e9,lst,calm,lt⟩,e10,hf⟩:=h
 have hpl:=hx.2.2.2.2.1
 refine q04 ?_
 by_cases hlt:j<x.parts.length
 ·have hlt':(j:Int)<x.parts.length:=by omega
  have hwj:=q0W (i:=j) (by omega)
  have hp:=hx.2.2.2.2.2 _ (List.getElem_mem hlt)
  have g1:(x.parts.map prtC)[j]?=some (prtC x.parts[j]):=by simp [hlt]
  rw [List.drop_eq_getElem_cons hlt,List.find?_cons] at hf
  generalize x.parts[j]=p at *
  simp only [prtC] at g1
  have htg:=target_ev dn l hl i0 hi0 hi1 p.ty hp.2.1
  have hti:=q9d hl i0 p.ty hi1
  have hini:=fun ht0=>initial_ev dn l hl (tgtZ l i0 p.ty) ht0 hti.2 (p.flag / 4) ⟨by have:=hp.2.2.1; omega,by have:=hp.2.2.2; omega⟩
  simp only [evA,dftC] at htg hini
  have hd12:p.id.tmod 12=p.id % 12:=Int.tmod_eq_emod_of_nonneg hp.1.1
  have hw1:IntKind.i64.wrap (p.id % 12)=p.id % 12:=IntWalk.i64_in _ (by omega)
  have hw2:IntKind.i64.wrap (1 + p.id % 12)=1 + p.id % 12:=IntWalk.i64_in _ (by omega)
  have hwid:IntKind.i64.wrap id=id:=IntWalk.i64_in _ (by omega)
  obtain ⟨z,hz⟩:∃ z:Int,z=j:=⟨_,rfl⟩
  have hz0:0<=z:=by omega
  have hwz:IntKind.i64.wrap (z + 1)=((j + 1:Nat):Int):=by rw [hz]; exact hwj
  rw [<- hz] at e10 hlt'
  rw [show j=z.toNat from by omega] at g1
  have calm':=calm
  obtain ⟨cm,cg,co,cn,cl⟩:=calm
  have next:∀ s',q66 n0 s0 dn l i0 rc x id ms s'->(s'.env 10).v=.int .i64 ((j + 1:Nat):Int)->q6d l i0 id p=false->evL allT q02 q0o s' k=some r:=fun s' h1 h2 h3=>by
   rw [h3] at hf
   exact ih hlt s' ⟨h1,h2,hf⟩
  by_cases c1:1 + p.id % 12=id
  ·by_cases c2:tgtZ l i0 p.ty<0
   ·have hnp:q6d l i0 id p=false:=by simp [q6d,c1]; omega
    simp [q0o,-Option.bind_some,-Int.toNat_lt,-List.map_map,List.range_succ,e1,e2,e3,m3,e7,m7,e9,e10,hlt',g1,hz0,htg,hd12,hw1,hw2,c1,c2,hwz,hwid]
    refine next _ ⟨?_,?_,?_,?_,?_,?_,?_,lst.of ?_ ?_ ?_,⟨?_,?_,?_,?_,?_⟩,?_⟩ ?_ hnp
    ·simp [e1]
    ·simp [e2]
    ·simp [e3]
    ·simp [q0t,m3]
    ·simp [e7]
    ·simp [q0t,m7]
    ·simp [e9]
    ·simp
    ·intro N; simp [q0t]
    ·simp only; omega
    ·exact (cm.set (by omega)).set (by omega)
    ·exact cg
    ·exact co
    ·simp only; omega
    ·exact ((cl.mono (by dsimp only; omega)).set (q05 (by simp [AV.free,AV.free0]))).set (q05 (by simp [AV.free,AV.free0]))
    ·simp only; omega
    ·simp
   ·have hip:q6d l i0 id p=true:=by simp [q6d,c1]; omega
    rw [hip] at hf
    have hma:memAt l i0 rc id x.parts=[memZ l i0 rc id p]:=by rw [memAt,<- hf]
    rw [hma] at hk
    have hini:=hini (by omega)
    have hq4:p.flag.tmod 4=p.flag % 4:=Int.tmod_eq_emod_of_nonneg hp.2.2.1
    have hv4:p.flag.tdiv 4=p.flag / 4:=Int.tdiv_eq_ediv_of_nonneg hp.2.2.1
    have hw4:IntKind.u8.wrap (p.flag / 4)=p.flag / 4:=by have:=hp.2.2.1; have:=hp.2.2.2; simp [IntKind.wrap,IntKind.bits,IntKind.signed]; omega
    have hwn:IntKind.i64.wrap (97 + id)=97 + id:=IntWalk.i64_in _ (by omega)
    have hwr:IntKind.i32.wrap (97 + id)=97 + id:=i32_in _ (by omega)
    have hes:=enc_size (97 + id)
    have hsz:(⟨#[109]⟩:ByteArray).size=1:=rfl
    have hnm:(⟨#[109]⟩:ByteArray).size + (Utf8.encode (97 + id)).size<=9223372036854775807:=by omega
    unfold memZ q80 at hk
    generalize hE:Utf8.encode (97 + id)=nm at *
    generalize q6r l (tgtZ l i0 p.ty) (p.flag / 4)=iz at *
    obtain ⟨iv,ib⟩:=iz
    simp only [q03] at hini
    generalize tgtZ l i0 p.ty=t at *
    rcases lst with ⟨lm,l1,l2⟩ | ⟨N,lm,l1,l2,l3,l4⟩
    ·subst lm
     have hroom:q1E 160 1=true:=by rw [q0s]; omega
     cases rc with
     | false =>
      simp [q0o,-Option.bind_some,-Int.toNat_lt,-List.map_map,List.range_succ,e1,e2,e3,m3,e7,m7,e9,e10,hlt',g1,hz0,htg,hd12,hw1,hw2,c1,c2,hwid,hwn,hwr,hE,hnm,l1,hroom,l2]
      refine hk _ _ ⟨rfl,?_,?_,?_,?_,?_,?_,?_,.inr ⟨s.next + 1 + 1 + 1 + 1 + 1 + 1 + 1,?_,?_,?_,?_,?_⟩,⟨?_,?_,?_,?_,?_⟩,?_⟩
      ·simp [e1]
      ·simp [e2]
      ·simp [e3]
      ·simp [q0t,m3]
      ·simp [e7]
      ·simp [q0t,m7]
      ·simp [e9]
      ·simp
      ·omega
      ·dsimp only; omega
      ·simp
      ·simp [q0t,memC,Vl.zero,Vl.kind,Vl.b,Vl.i,Vl.s,Vl.id,Vl.kn,Vl.keys,Vl.xn,Vl.items,Vl.rn,Vl.rest]
      ·repeat (first | exact cm | refine q27.set ?_ (by omega) | refine q27.kill ?_ hM (by omega))
      ·exact cg
      ·exact co
      ·dsimp only; omega
      ·exact (((((cl.mono (by dsimp only; omega)).set (q05 (by simp [AV.free,AV.free0]))).set (q05 (by simp [AV.free,AV.free0]))).set (q05 (by simp [AV.free,AV.free0]))).set (q05 (by simp [AV.free,AV.free0]))).set (q1U (by simp [q2e,AV.free0,memC]))
      ·dsimp only; omega
     | true =>
      by_cases f1:p.flag % 4=1
      ·simp [q0o,-Option.bind_some,-Int.toNat_lt,-List.map_map,List.range_succ,e1,e2,e3,m3,e7,m7,e9,e10,hlt',g1,hz0,htg,hd12,hw1,hw2,c1,c2,hwid,hwn,hwr,hE,hnm,l1,hroom,l2,hq4,f1]
       refine hk _ _ ⟨rfl,?_,?_,?_,?_,?_,?_,?_,.inr ⟨s.next + 1 + 1 + 1 + 1 + 1 + 1 + 1 + 1,?_,?_,?_,?_,?_⟩,⟨?_,?_,?_,?_,?_⟩,?_⟩
       ·simp [e1]
       ·simp [e2]
       ·simp [e3]
       ·simp [q0t,m3]
       ·simp [e7]
       ·simp [q0t,m7]
       ·simp [e9]
       ·simp
       ·omega
       ·dsimp only; omega
       ·simp
       ·simp [q0t,memC,Vl.zero,Vl.kind,Vl.b,Vl.i,Vl.s,Vl.id,Vl.kn,Vl.keys,Vl.xn,Vl.items,Vl.rn,Vl.rest,f1]
       ·repeat (first | exact cm | refine q27.set ?_ (by omega) | refine q27.kill ?_ hM (by omega))
       ·exact cg
       ·exact co
       ·dsimp only; omega
       ·exact ((((((cl.mono (by dsimp only; omega)).set (q05 (by simp [AV.free,AV.free0]))).set (q05 (by simp [AV.free,AV.free0]))).set (q05 (by simp [AV.free,AV.free0]))).set (q05 (by simp [AV.free,AV.free0]))).set (q05 (by simp [AV.free,AV.free0]))).set (q1U (by simp [q2e,AV.free0,memC]))
       ·dsimp only; omega
      ·by_cases f2:2<=p.flag % 4
       ·simp [q0o,-Option.bind_some,-Int.toNat_lt,-List.map_map,List.range_succ,e1,e2,e3,m3,e7,m7,e9,e10,hlt',g1,hz0,htg,hd12,hw1,hw2,c1,c2,hwid,hwn,hwr,hE,hnm,l1,hroom,l2,hq4,f1,f2,hv4,hw4,hini]
        refine hk _ _ ⟨rfl,?_,?_,?_,?_,?_,?_,?_,.inr ⟨s.next + 1 + 1 + 1 + 1 + 1 + 1 + 1 + 1,?_,?_,?_,?_,?_⟩,⟨?_,?_,?_,?_,?_⟩,?_⟩
        ·simp [e1]
        ·simp [e2]
        ·simp [e3]
        ·simp [q0t,m3]
        ·simp [e7]
        ·simp [q0t,m7]
        ·simp [e9]
        ·simp
        ·omega
        ·dsimp only; omega
        ·simp
        ·simp [q0t,memC,Vl.zero,Vl.kind,Vl.b,Vl.i,Vl.s,Vl.id,Vl.kn,Vl.keys,Vl.xn,Vl.items,Vl.rn,Vl.rest,f1,f2]
        ·repeat (first | exact cm | refine q27.set ?_ (by omega) | refine q27.kill ?_ hM (by omega))
        ·exact cg
        ·exact co
        ·dsimp only; omega
        ·exact (((((((cl.mono (by dsimp only; omega)).set (q05 (by simp [AV.free,AV.free0]))).set (q05 (by simp [AV.free,AV.free0]))).set (q05 (by simp [AV.free,AV.free0]))).set (q05 (by simp [AV.free,AV.free0]))).set (q05 (by simp [AV.free,AV.free0]))).set (q05 (by simp [AV.free,AV.free0]))).set (q1U (by simp [q2e,AV.free0,memC]))
        ·dsimp only; omega
       ·simp [q0o,-Option.bind_some,-Int.toNat_lt,-List.map_map,List.range_succ,e1,e2,e3,m3,e7,m7,e9,e10,hlt',g1,hz0,htg,hd12,hw1,hw2,c1,c2,hwid,hwn,hwr,hE,hnm,l1,hroom,l2,hq4,f1,f2]
        refine hk _ _ ⟨rfl,?_,?_,?_,?_,?_,?_,?_,.inr ⟨s.next + 1 + 1 + 1 + 1 + 1 + 1 + 1,?_,?_,?_,?_,?_⟩,⟨?_,?_,?_,?_,?_⟩,?_⟩
        ·simp [e1]
        ·simp [e2]
        ·simp [e3]
        ·simp [q0t,m3]
        ·simp [e7]
        ·simp [q0t,m7]
        ·simp [e9]
        ·simp
        ·omega
        ·dsimp only; omega
        ·simp
        ·simp [q0t,memC,Vl.zero,Vl.kind,Vl.b,Vl.i,Vl.s,Vl.id,Vl.kn,Vl.keys,Vl.xn,Vl.items,Vl.rn,Vl.rest,f1,f2]
        ·repeat (first | exact cm | refine q27.set ?_ (by omega) | refine q27.kill ?_ hM (by omega))
        ·exact cg
        ·exact co
        ·dsimp only; omega
        ·exact (((((cl.mono (by dsimp only; omega)).set (q05 (by simp [AV.free,AV.free0]))).set (q05 (by simp [AV.free,AV.free0]))).set (q05 (by simp [AV.free,AV.free0]))).set (q05 (by simp [AV.free,AV.free0]))).set (q1U (by simp [q2e,AV.free0,memC]))
        ·dsimp only; omega
    ·have hml:(ms.map memC).length=ms.length:=by simp
     have hroom:q1E 160 (ms.length + 1)=true:=by rw [q0s]; omega
     have hels:=q6Y ms
     have hfr:q2e (ms.map memC)=true:=q6Z memC ms fun m=>by simp [memC,AV.free0]
     have hre:q4m (q0f (ms.map memC)) 13 0 ms.length=some (ms.map memC):=by have:=rowOf_els hels hfr; rwa [hml] at this
     cases rc with
     | false =>
      simp [q0o,-Option.bind_some,-Int.toNat_lt,-List.map_map,List.range_succ,e1,e2,e3,m3,e7,m7,e9,e10,hlt',g1,hz0,htg,hd12,hw1,hw2,c1,c2,hwid,hwn,hwr,hE,hnm,l3,hroom,l4,hre]
      refine hk _ _ ⟨rfl,?_,?_,?_,?_,?_,?_,?_,.inr ⟨s.next + 1 + 1 + 1 + 1 + 1 + 1 + 1,?_,?_,?_,?_,?_⟩,⟨?_,?_,?_,?_,?_⟩,?_⟩
      ·simp [q0r,q0x,Slot.kill_v,Slot.kill_mk,AV.kill,AV.kill0,e1]
      ·simp [q0r,q0x,Slot.kill_v,Slot.kill_mk,AV.kill,AV.kill0,e2]
      ·simp [q0r,q0x,Slot.kill_v,Slot.kill_mk,AV.kill,AV.kill0,e3]
      ·simp [q0r,q0x,Slot.kill_v,Slot.kill_mk,AV.kill,AV.kill0,q0t,m3]
      ·simp [q0r,q0x,Slot.kill_v,Slot.kill_mk,AV.kill,AV.kill0,e7]
      ·simp [q0r,q0x,Slot.kill_v,Slot.kill_mk,AV.kill,AV.kill0,q0t,m7]
      ·simp [q0r,q0x,Slot.kill_v,Slot.kill_mk,AV.kill,AV.kill0,e9]
      ·simp
      ·omega
      ·dsimp only; omega
      ·simp
      ·simp [q0t,memC,Vl.zero,Vl.kind,Vl.b,Vl.i,Vl.s,Vl.id,Vl.kn,Vl.keys,Vl.xn,Vl.items,Vl.rn,Vl.rest]
      ·repeat (first | exact cm | refine q27.set ?_ (by omega) | refine q27.kill ?_ hM (by omega))
      ·dsimp only; rw [cg]; exact hG.same (by omega)
      ·exact co
      ·dsimp only; omega
      ·exact ((((((cl.mono (by dsimp only; omega)).set (q05 (by simp [AV.free,AV.free0]))).set (q05 (by simp [AV.free,AV.free0]))).set (q05 (by simp [AV.free,AV.free0]))).set (q05 (by simp [AV.free,AV.free0]))).kill).set (q1U (by simp [q2e,AV.free0,memC]))
      ·dsimp only; omega
     | true =>
      by_cases f1:p.flag % 4=1
      ·simp [q0o,-Option.bind_some,-Int.toNat_lt,-List.map_map,List.range_succ,e1,e2,e3,m3,e7,m7,e9,e10,hlt',g1,hz0,htg,hd12,hw1,hw2,c1,c2,hwid,hwn,hwr,hE,hnm,l3,hroom,l4,hre,hq4,f1]
       refine hk _ _ ⟨rfl,?_,?_,?_,?_,?_,?_,?_,.inr ⟨s.next + 1 + 1 + 1 + 1 + 1 + 1 + 1 + 1,?_,?_,?_,?_,?_⟩,⟨?_,?_,?_,?_,?_⟩,?_⟩
       ·simp [q0r,q0x,Slot.kill_v,Slot.kill_mk,AV.kill,AV.kill0,e1]
       ·simp [q0r,q0x,Slot.kill_v,Slot.kill_mk,AV.kill,AV.kill0,e2]
       ·simp [q0r,q0x,Slot.kill_v,Slot.kill_mk,AV.kill,AV.kill0,e3]
       ·simp [q0r,q0x,Slot.kill_v,Slot.kill_mk,AV.kill,AV.kill0,q0t,m3]
       ·simp [q0r,q0x,Slot.kill_v,Slot.kill_mk,AV.kill,AV.kill0,e7]
       ·simp [q0r,q0x,Slot.kill_v,Slot.kill_mk,AV.kill,AV.kill0,q0t,m7]
       ·simp [q0r,q0x,Slot.kill_v,Slot.kill_mk,AV.kill,AV.kill0,e9]
       ·simp
       ·omega
       ·dsimp only; omega
       ·simp
       ·simp [q0t,memC,Vl.zero,Vl.kind,Vl.b,Vl.i,Vl.s,Vl.id,Vl.kn,Vl.keys,Vl.xn,Vl.items,Vl.rn,Vl.rest,f1]
       ·repeat (first | exact cm | refine q27.set ?_ (by omega) | refine q27.kill ?_ hM (by omega))
       ·dsimp only; rw [cg]; exact hG.same (by omega)
       ·exact co
       ·dsimp only; omega
       ·exact (((((((cl.mono (by dsimp only; omega)).set (q05 (by simp [AV.free,AV.free0]))).set (q05 (by simp [AV.free,AV.free0]))).set (q05 (by simp [AV.free,AV.free0]))).set (q05 (by simp [AV.free,AV.free0]))).set (q05 (by simp [AV.free,AV.free0]))).kill).set (q1U (by simp [q2e,AV.free0,memC]))
       ·dsimp only; omega
      ·by_cases f2:2<=p.flag % 4
       ·simp [q0o,-Option.bind_some,-Int.toNat_lt,-List.map_map,List.range_succ,e1,e2,e3,m3,e7,m7,e9,e10,hlt',g1,hz0,htg,hd12,hw1,hw2,c1,c2,hwid,hwn,hwr,hE,hnm,l3,hroom,l4,hre,hq4,f1,f2,hv4,hw4,hini]
        refine hk _ _ ⟨rfl,?_,?_,?_,?_,?_,?_,?_,.inr ⟨s.next + 1 + 1 + 1 + 1 + 1 + 1 + 1 + 1,?_,?_,?_,?_,?_⟩,⟨?_,?_,?_,?_,?_⟩,?_⟩
        ·simp [q0r,q0x,Slot.kill_v,Slot.kill_mk,AV.kill,AV.kill0,e1]
        ·simp [q0r,q0x,Slot.kill_v,Slot.kill_mk,AV.kill,AV.kill0,e2]
        ·simp [q0r,q0x,Slot.kill_v,Slot.kill_mk,AV.kill,AV.kill0,e3]
        ·simp [q0r,q0x,Slot.kill_v,Slot.kill_mk,AV.kill,AV.kill0,q0t,m3]
        ·simp [q0r,q0x,Slot.kill_v,Slot.kill_mk,AV.kill,AV.kill0,e7]
        ·simp [q0r,q0x,Slot.kill_v,Slot.kill_mk,AV.kill,AV.kill0,q0t,m7]
        ·simp [q0r,q0x,Slot.kill_v,Slot.kill_mk,AV.kill,AV.kill0,e9]
        ·simp
        ·omega
        ·dsimp only; omega
        ·simp
        ·simp [q0t,memC,Vl.zero,Vl.kind,Vl.b,Vl.i,Vl.s,Vl.id,Vl.kn,Vl.keys,Vl.xn,Vl.items,Vl.rn,Vl.rest,f1,f2]
        ·repeat (first | exact cm | refine q27.set ?_ (by omega) | refine q27.kill ?_ hM (by omega))
        ·dsimp only; rw [cg]; exact hG.same (by omega)
        ·exact co
        ·dsimp only; omega
        ·exact ((((((((cl.mono (by dsimp only; omega)).set (q05 (by simp [AV.free,AV.free0]))).set (q05 (by simp [AV.free,AV.free0]))).set (q05 (by simp [AV.free,AV.free0]))).set (q05 (by simp [AV.free,AV.free0]))).set (q05 (by simp [AV.free,AV.free0]))).set (q05 (by simp [AV.free,AV.free0]))).kill).set (q1U (by simp [q2e,AV.free0,memC]))
        ·dsimp only; omega
       ·simp [q0o,-Option.bind_some,-Int.toNat_lt,-List.map_map,List.range_succ,e1,e2,e3,m3,e7,m7,e9,e10,hlt',g1,hz0,htg,hd12,hw1,hw2,c1,c2,hwid,hwn,hwr,hE,hnm,l3,hroom,l4,hre,hq4,f1,f2]
        refine hk _ _ ⟨rfl,?_,?_,?_,?_,?_,?_,?_,.inr ⟨s.next + 1 + 1 + 1 + 1 + 1 + 1 + 1,?_,?_,?_,?_,?_⟩,⟨?_,?_,?_,?_,?_⟩,?_⟩
        ·simp [q0r,q0x,Slot.kill_v,Slot.kill_mk,AV.kill,AV.kill0,e1]
        ·simp [q0r,q0x,Slot.kill_v,Slot.kill_mk,AV.kill,AV.kill0,e2]
        ·simp [q0r,q0x,Slot.kill_v,Slot.kill_mk,AV.kill,AV.kill0,e3]
        ·simp [q0r,q0x,Slot.kill_v,Slot.kill_mk,AV.kill,AV.kill0,q0t,m3]
        ·simp [q0r,q0x,Slot.kill_v,Slot.kill_mk,AV.kill,AV.kill0,e7]
        ·simp [q0r,q0x,Slot.kill_v,Slot.kill_mk,AV.kill,AV.kill0,q0t,m7]
        ·simp [q0r,q0x,Slot.kill_v,Slot.kill_mk,AV.kill,AV.kill0,e9]
        ·simp
        ·omega
        ·dsimp only; omega
        ·simp
        ·simp [q0t,memC,Vl.zero,Vl.kind,Vl.b,Vl.i,Vl.s,Vl.id,Vl.kn,Vl.keys,Vl.xn,Vl.items,Vl.rn,Vl.rest,f1,f2]
        ·repeat (first | exact cm | refine q27.set ?_ (by omega) | refine q27.kill ?_ hM (by omega))
        ·dsimp only; rw [cg]; exact hG.same (by omega)
        ·exact co
        ·dsimp only; omega
        ·exact ((((((cl.mono (by dsimp only; omega)).set (q05 (by simp [AV.free,AV.free0]))).set (q05 (by simp [AV.free,AV.free0]))).set (q05 (by simp [AV.free,AV.free0]))).set (q05 (by simp [AV.free,AV.free0]))).kill).set (q1U (by simp [q2e,AV.free0,memC]))
        ·dsimp only; omega
  ·have hnp:q6d l i0 id p=false:=by simp [q6d,c1]
   simp [q0o,-Option.bind_some,-Int.toNat_lt,-List.map_map,List.range_succ,e1,e2,e3,m3,e7,m7,e9,e10,hlt',g1,hz0,htg,hd12,hw1,hw2,c1,hwz]
   refine next _ ⟨?_,?_,?_,?_,?_,?_,?_,lst.of ?_ ?_ ?_,⟨?_,?_,?_,?_,?_⟩,?_⟩ ?_ hnp
   ·simp [e1]
   ·simp [e2]
   ·simp [e3]
   ·simp [q0t,m3]
   ·simp [e7]
   ·simp [q0t,m7]
   ·simp [e9]
   ·simp
   ·intro N; simp [q0t]
   ·simp only; omega
   ·exact (cm.set (by omega)).set (by omega)
   ·exact cg
   ·exact co
   ·simp only; omega
   ·exact ((cl.mono (by dsimp only; omega)).set (q05 (by simp [AV.free,AV.free0]))).set (q05 (by simp [AV.free,AV.free0]))
   ·simp only; omega
   ·simp
 ·have hlt':¬ (j:Int)<x.parts.length:=by omega
  simp [q0o,-Option.bind_some,-Int.toNat_lt,-List.map_map,List.range_succ,e7,m7,e10,hlt]
  rw [List.drop_eq_nil_of_le (by omega),List.find?_nil] at hf
  have hnil:memAt l i0 rc id x.parts=[]:=by rw [memAt,<- hf]
  refine hk _ _ ⟨rfl,?_⟩
  rw [hnil,List.append_nil]
  obtain ⟨cm,cg,co,cn,cl⟩:=calm
  refine ⟨?_,?_,?_,?_,?_,?_,?_,lst.of ?_ ?_ ?_,⟨?_,?_,?_,?_,?_⟩,?_⟩
  ·simp [e1]
  ·simp [e2]
  ·simp [e3]
  ·simp [m3]
  ·simp [e7]
  ·simp [m7]
  ·simp [e9]
  ·simp
  ·intro N; simp
  ·simp
  ·exact cm
  ·exact cg
  ·exact co
  ·simp only; omega
  ·exact cl.mono (by dsimp only; omega)
  ·simp only; omega
end
section
set_option maxHeartbeats 4000000
theorem q66.of {n0:Nat} {s0:MSt} {dn:Bool} {l:List Nde} {i0:Int} {rc:Bool} {x:Nde} {id id':Int} {ms:List Mem} {s s':MSt} (h:q66 n0 s0 dn l i0 rc x id ms s)
  (h1:(s'.env 1).v=(s.env 1).v) (h2:(s'.env 2).v=(s.env 2).v) (h3:(s'.env 3).v=(s.env 3).v) (h7:(s'.env 7).v=(s.env 7).v) (h8:s'.env 8=s.env 8) (h9:(s'.env 9).v=.int .i64 id') (hm:s'.mem=s.mem) (hg:s'.gh=s.gh) (ho:s'.obj=s.obj) (hn:s.next<=s'.next):q66 n0 s0 dn l i0 rc x id' ms s':=by
 obtain ⟨e1,e2,e3,m3,e7,m7,e9,lst,⟨cm,cg,co,cn,cl⟩,lt⟩:=h
 refine ⟨by rw [h1,e1],by rw [h2,e2],by rw [h3,e3],by rw [hm,m3],by rw [h7,e7],by rw [hm,m7],h9,lst.of h8 (fun N=>by rw [hm]) hn,⟨by rw [hm]; exact cm,by rw [hg,cg],by rw [ho,co],by omega,by rw [hm]; exact cl.mono hn⟩,by omega⟩
theorem parts_ev {r:RV} {dn:Bool} {l:List Nde} (hl:oks l) {i0:Int} (hi0:0<=i0) (hi1:i0<l.length) {rc:Bool} {x:Nde} (hx:l[i0.toNat]?=some x) {a1 a2 a3:An} (s0:MSt) (hM:LowM s0.next s0.mem) (hG:LowE s0.next s0.gh) (k:Slot->MSt->Option RV)
  (hk:∀ y s',Calm s0.next s0 s'->ListI s0.next (q2E l i0 rc x.parts) y s'->k y s'=some r):evH allT q02 56 [⟨.agg (dftC dn l),a1⟩,⟨.int .i64 i0,a2⟩,⟨.bool rc,a3⟩] s0 k=some r:=by
 refine evH_intro q4t rfl rfl ?_
 have hxo:x.ok:=hl.2.2 _ (List.mem_of_getElem? hx)
 have g:(l.map ndeC)[i0.toNat]?=some (ndeC x):=by simp [hx]
 simp only [ndeC] at g
 simp [q4t,dftC,-Option.bind_some,-Int.toNat_lt,-List.map_map,List.range_succ,g,hi0]
 refine q0h 12 (fun i s=>q66 s0.next s0 dn l i0 rc x ((i + 1:Nat):Int) (q4S l i0 rc x.parts i) s)
  (fun e s=>e=.exit 0/\∃ id,q66 s0.next s0 dn l i0 rc x id (q2E l i0 rc x.parts) s) (fun i hi s k' h ih hk=>?_) _ _ ?_ (fun e s h=>?_)
 ·refine q04 ?_
  by_cases hlt:i<12
  ·have hid:((i + 1:Nat):Int)<=12:=by omega
   have e9:=h.e9
   have hw:IntKind.i64.wrap (((i + 1:Nat):Int) + 1)=((i + 1 + 1:Nat):Int):=q0W (by omega)
   obtain ⟨z,hz⟩:∃ z:Int,z=((i + 1:Nat):Int):=⟨_,rfl⟩
   rw [<- hz] at e9 hid hw
   simp [q4f,-Option.bind_some,-Int.toNat_lt,-List.map_map,List.range_succ,e9,hid]
   refine parts_in hl hi0 hi1 hxo hM hG (id:=z) (by omega) (Nat.le_trans (q5L l i0 rc x.parts i) hi) _ _ (h.of ?_ ?_ ?_ ?_ ?_ ?_ ?_ ?_ ?_ ?_) ?_ (fun s' h'=>?_)
   ·simp
   ·simp
   ·simp
   ·simp
   ·simp
   ·simp [e9]
   ·rfl
   ·rfl
   ·rfl
   ·dsimp only; omega
   ·simp
   ·have e9':=h'.e9
    simp [-Option.bind_some,-Int.toNat_lt,-List.map_map,List.range_succ,e9',hw]
    rw [hz] at h'
    refine ih hlt _ (q66.of (ms:=q4S l i0 rc x.parts (i + 1)) h' ?_ ?_ ?_ ?_ ?_ ?_ ?_ ?_ ?_ ?_)
    ·simp
    ·simp
    ·simp
    ·simp
    ·simp
    ·simp
    ·rfl
    ·rfl
    ·rfl
    ·dsimp only; omega
  ·have hi12:i=12:=by omega
   subst hi12
   have e9:=h.e9
   simp at e9
   simp [q4f,-Option.bind_some,-Int.toNat_lt,-List.map_map,List.range_succ,e9]
   refine hk _ _ ⟨rfl,13,q66.of (id':=13) h ?_ ?_ ?_ ?_ ?_ ?_ ?_ ?_ ?_ ?_⟩
   ·simp
   ·simp
   ·simp
   ·simp
   ·simp
   ·simp [e9]
   ·rfl
   ·rfl
   ·rfl
   ·dsimp only; omega
 ·refine ⟨?_,?_,?_,?_,?_,?_,?_,.inl ⟨rfl,?_,?_⟩,⟨?_,?_,?_,?_,?_⟩,?_⟩
  ·simp
  ·simp
  ·simp
  ·simp [q0t]
  ·simp
  ·simp [q0t]
  ·simp
  ·simp
  ·simp
  ·exact (((q27.refl).set (by omega)).set (by omega)).set (by omega)
  ·rfl
  ·rfl
  ·dsimp only; omega
  ·exact (((hM.mono (by dsimp only; omega)).set (q05 (by simp [AV.free,AV.free0]))).set (q05 (by simp [AV.free,AV.free0]))).set (q05 (by simp [AV.free,AV.free0]))
  ·dsimp only; omega
 ·obtain ⟨rfl,id,h⟩:=h
  obtain ⟨e1,e2,e3,m3,e7,m7,e9,lst,⟨cm,cg,co,cn,cl⟩,lt⟩:=h
  simp [-Option.bind_some,-Int.toNat_lt,-List.map_map,List.range_succ,finH,resS,packS]
  refine hk _ _ ⟨cm,cg,co,?_,cl.mono ?_⟩ (lst.of ?_ (fun N=>?_) ?_)
  ·dsimp only; omega
  ·dsimp only; omega
  ·rfl
  ·rfl
  ·dsimp only; omega
end
def q72 (x:Slot):Prop:=∀ k,x.strip k=x
def q5V (e:Nat->Slot):Prop:=∀ t,q72 (e t)
def PureM (m:Nat) (M:Nat->Nat->Option (List Slot)):Prop:=∀ t n r,n<m->M t n=some r->∀ x∈r,q72 x
theorem q5U (v:AV):q72 ⟨v,.no⟩:=fun _=>rfl
theorem pureS_ex (v:AV):q72 ⟨v,.ex⟩:=fun _=>rfl
theorem q5V.same {e:Nat->Slot} (h:q5V e) (k:Nat):stripE k e=e:=funext fun t=>by rw [stripE_at]; exact h t k
theorem stripM_val (k:Nat) (M:Nat->Nat->Option (List Slot)) (t n:Nat):stripM k M t n=(M t n).map (·.map (Slot.strip k)):=rfl
theorem LowM.strip {m:Nat} {M:Nat->Nat->Option (List Slot)} (h:LowM m M) (k:Nat):LowM m (stripM k M):=fun t n r he x hx=>by
 rw [stripM_val] at he
 obtain ⟨r0,hr,rfl⟩:=Option.map_eq_some_iff.1 he
 obtain ⟨y,hy,rfl⟩:=List.mem_map.1 hx
 exact h t n r0 hr y hy
theorem LowE.strip {m:Nat} {e:Nat->Slot} (h:LowE m e) (k:Nat):LowE m (stripE k e):=fun t=>h t
theorem rowOf_kill {l:List (List AV)} (h:q2e l=true) (t n:Nat):(q0f l).map (Slot.kill t n)=q0f l:=by
 have:(q0f l).map (Slot.kill t n)=(q0f l).map id:=List.map_congr_left fun x hx=>by
  have:=q1U (m:=0) h x hx t n (Nat.zero_le _)
  show (⟨x.v.kill t n,x.a⟩:Slot)=x
  rw [this]
 rwa [List.map_id] at this
def q6e (i:Int):ByteArray:=Utf8.encode (65 + i)
def sName (d:Int):ByteArray:=⟨#[115]⟩++Utf8.encode (97 + d)
def q5k (a:Int):List Sym:=(idsZ a).map fun d=>⟨d,sName d⟩
def Typ.of (k:Int) (nm:ByteArray):Typ:=⟨k,nm,0,0,0,true,[],true,[],0,0,false⟩
def typZ (l:List Nde) (i:Int):Typ :=
 let x:=ndAt l i
 let n:Int:=l.length
 match x.kind with
 | 1=>.of 1 ⟨#[]⟩
 | 2=>{ Typ.of 2 ⟨#[]⟩ with low:=x.low,high:=x.high }
 | 3=>{ Typ.of 3 ⟨#[]⟩ with max:=x.a % 4 }
 | 4=>{ Typ.of 4 (q6e i) with opn:=decide (x.b % 2=1),sn:=false,syms:=q5k x.a }
 | 5=>{ Typ.of 5 (q6e i) with mn:=(q2E l i true x.parts).isEmpty,mems:=q2E l i true x.parts }
 | 6=>if (q2E l i false x.parts).isEmpty=true then .of 5 (q6e i) else { Typ.of 6 (q6e i) with opn:=decide (x.b % 2=1),mn:=false,mems:=q2E l i false x.parts }
 | 7=>{ Typ.of 7 ⟨#[]⟩ with max:=x.a % 4,elem:=x.c % n }
 | 8=>if keyZ l x.b<0 then { Typ.of 7 ⟨#[]⟩ with max:=x.a % 4,elem:=x.c % n } else { Typ.of 8 ⟨#[]⟩ with max:=x.a % 4,key:=keyZ l x.b,elem:=x.c % n }
 | _=>{ Typ.of 9 ⟨#[]⟩ with elem:=x.c % n }
def typL (t:Typ) (c:AV):List AV:=[.int .i64 t.kind,.str t.name,.int .i64 t.low,.int .i64 t.high,.int .i64 t.max,.sl t.sn (t.syms.map symC),c,.int .i64 t.key,.int .i64 t.elem,.bool t.opn]
def q5R (ms:List Mem) (c:AV) (s:MSt):Prop :=
 (ms=[]/\c=.sl true [])\/∃ N,ms≠[]/\N<s.next/\c=.ref 88 N 13 0 ms.length ms.length/\s.mem 88 N=some (q0f (ms.map memC))
theorem ListI.mems {n0:Nat} {ms:List Mem} {x:Slot} {s:MSt} (h:ListI n0 ms x s):q5R ms x.v s:=by
 rcases h with ⟨h1,h2,_⟩ | ⟨N,h1,_,h3,h4,h5⟩
 ·exact .inl ⟨h1,h2⟩
 ·exact .inr ⟨N,h1,h3,h4,h5⟩
theorem mems_free (ms:List Mem):q2e (ms.map memC)=true:=q6Z memC ms fun m=>by simp [memC,AV.free0]
theorem q5R.keep {ms:List Mem} {c:AV} {s s':MSt} (h:q5R ms c s) (hm:∀ N,N<s.next->s'.mem 88 N=s.mem 88 N) (hn:s.next<=s'.next):q5R ms c s':=by
 rcases h with h | ⟨N,h1,h2,h3,h4⟩
 ·exact .inl h
 ·exact .inr ⟨N,h1,Nat.lt_of_lt_of_le h2 hn,h3,(hm N h2).trans h4⟩
theorem q5R.low {ms:List Mem} {c:AV} {s:MSt} (h:q5R ms c s):low0 s.next c:=by
 rcases h with ⟨_,rfl⟩ | ⟨N,_,h2,rfl,_⟩
 ·exact q5s rfl
 ·exact low0_ref h2
def q61 (S:List Typ) (L:List (List AV)) (s:MSt):Prop:=S.length=L.length/\∀ (i:Nat) (t:Typ) (c:List AV),S[i]?=some t->L[i]?=some c->∃ m,c=typL t m/\q5R t.mems m s
theorem q61.snoc {S:List Typ} {L:List (List AV)} {s:MSt} (h:q61 S L s) {t:Typ} {m:AV} (hm:q5R t.mems m s):q61 (S++[t]) (L++[typL t m]) s:=by
 obtain ⟨h1,h2⟩:=h
 refine ⟨by simp [h1],fun i t' c' ht hc=>?_⟩
 rcases Nat.lt_or_ge i S.length with hlt | hge
 ·rw [List.getElem?_append_left hlt] at ht
  rw [List.getElem?_append_left (by omega)] at hc
  exact h2 i t' c' ht hc
 ·rw [List.getElem?_append_right hge] at ht
  rw [List.getElem?_append_right (by omega)] at hc
  have hi:i - S.length=0:=by
   rcases Nat.eq_zero_or_pos (i - S.length) with h0 | h0
   ·exact h0
   ·rw [List.getElem?_eq_none (by simp; omega)] at ht; cases ht
  rw [hi] at ht
  rw [<- h1,hi] at hc
  injection ht with ht
  injection hc with hc
  exact ⟨m,by rw [<- ht,<- hc],by rw [<- ht]; exact hm⟩
theorem q61.keep {S:List Typ} {L:List (List AV)} {s s':MSt} (h:q61 S L s) (hm:∀ N,N<s.next->s'.mem 88 N=s.mem 88 N) (hn:s.next<=s'.next):q61 S L s' :=
 ⟨h.1,fun i t c ht hc=>by obtain ⟨m,h1,h2⟩:=h.2 i t c ht hc; exact ⟨m,h1,h2.keep hm hn⟩⟩
theorem q61.els {S:List Typ} {L:List (List AV)} {s:MSt} (h:q61 S L s):q18 10 L=true:=by
 refine List.all_eq_true.2 fun c hc=>?_
 obtain ⟨i,hi,rfl⟩:=List.getElem_of_mem hc
 have hlen:=h.1
 have hiS:i<S.length:=by omega
 obtain ⟨m,h1,_⟩:=h.2 i S[i] L[i] (List.getElem?_eq_getElem (by omega)) (List.getElem?_eq_getElem hi)
 rw [h1]
 rfl
section
set_option maxHeartbeats 4000000
def Stay (p n8:Nat) (M M':Nat->Nat->Option (List Slot)):Prop:=∀ t n,¬ (t=p/\n=n8)->(∀ r,M t n=some r->∀ x∈r,q72 x)->M' t n=M t n
theorem Stay.refl {p n8:Nat} {M:Nat->Nat->Option (List Slot)}:Stay p n8 M M:=fun _ _ _ _=>rfl
theorem Stay.strip {p n8:Nat} {M M':Nat->Nat->Option (List Slot)} (h:Stay p n8 M M') (k:Nat):Stay p n8 M (stripM k M'):=fun t n h1 h2=>by
 rw [stripM_at,h t n h1 h2]
 cases hr:M t n with
 | none=>rfl
 | some r =>
  refine congrArg some ?_
  have:r.map (Slot.strip k)=r.map id:=List.map_congr_left fun x hx=>h2 r hr x hx k
  rwa [List.map_id] at this
theorem Stay.set {p n8:Nat} {M M':Nat->Nat->Option (List Slot)} (h:Stay p n8 M M') {r:List Slot}:Stay p n8 M (setM M' p n8 r):=fun t n h1 h2=>by
 rw [q0t,if_neg h1]
 exact h t n h1 h2
def q4M (nm:ByteArray) (op:Bool) (S:List Sym) (b:Bool) (a:An):List Slot:=[⟨.int .i64 4,.no⟩,⟨.str nm,.no⟩,⟨.int .i64 0,.no⟩,⟨.int .i64 0,.no⟩,⟨.int .i64 0,.no⟩,⟨.sl b (S.map symC),a⟩,⟨.sl true [],.no⟩,⟨.int .i64 0,.no⟩,⟨.int .i64 0,.no⟩,⟨.bool op,.no⟩]
theorem idl_rng (a:Int):∀ i,∀ d∈idl a i,1<=d/\d<=i
 | 0,d,h=>by cases h
 | i + 1,d,h=>by
  rw [idl] at h
  rcases List.mem_append.1 h with h | h
  ·have:=idl_rng a i d h; omega
  ·split at h
   ·simp at h; omega
   ·cases h
theorem idsZ_rng (a:Int):∀ d∈idsZ a,1<=d/\d<=6:=fun d h=>by
 unfold idsZ at h
 split at h
 ·simp at h; omega
 ·have:=idl_rng a 6 d h; omega
theorem esyms_ev {r:RV} {a:Int} {n8:Nat} {nm:ByteArray} {op:Bool} (s0:MSt) (k:Ex->MSt->Option RV)
  (h9:(s0.env 9).v=.sl false ((idsZ a).map q6q)) (h10:(s0.env 10).v=.int .i64 0) (h8:(s0.env 8).v=.ptr 8 n8 0) (hlt:n8<s0.next) (hm:s0.mem 8 n8=some (q4M nm op [] true .no)) (hG:q5V s0.gh) (hL:LowM s0.next s0.mem) (hE:LowE s0.next s0.env)
  (hk:∀ s',(∀ t,t<9->(s'.env t).v=(s0.env t).v)->Stay 8 n8 s0.mem s'.mem->s'.gh=s0.gh->s'.obj=s0.obj->s0.next<=s'.next->LowM s'.next s'.mem->LowE s'.next s'.env->(∃ an,s'.mem 8 n8=some (q4M nm op (q5k a) false an))->k (.exit 3) s'=some r):evL allT q02 q2P s0 k=some r:=by
 have hil:=q9h a
 refine q0h (idsZ a).length (fun i s=>(∀ t,t<10->(s.env t).v=(s0.env t).v)/\(s.env 10).v=.int .i64 i/\Stay 8 n8 s0.mem s.mem/\s.gh=s0.gh/\s.obj=s0.obj/\s0.next<=s.next/\LowM s.next s.mem/\LowE s.next s.env/\(i=0/\s.mem 8 n8=some (q4M nm op [] true .no)\/¬ i=0/\s.mem 8 n8=some (q4M nm op ((q5k a).take i) false (.own 91 99))))
  (fun e s=>e=.exit 3/\(∀ t,t<9->(s.env t).v=(s0.env t).v)/\Stay 8 n8 s0.mem s.mem/\s.gh=s0.gh/\s.obj=s0.obj/\s0.next<=s.next/\LowM s.next s.mem/\LowE s.next s.env/\∃ an,s.mem 8 n8=some (q4M nm op (q5k a) false an)) (fun i hi s k h ih hk=>?_) s0 k ⟨fun _ _=>rfl,by simpa using h10,Stay.refl,rfl,rfl,Nat.le_refl _,hL,hE,.inl ⟨rfl,hm⟩⟩ (fun e s h=>by obtain ⟨rfl,h1,h2,h3,h4,h5,h6,h7,h8⟩:=h; exact hk s h1 h2 h3 h4 h5 h6 h7 h8)
 obtain ⟨he,e10,hst,hg,ho,hn,hL,hE,hrow⟩:=h
 have e9:=(he 9 (by omega)).trans h9
 have e8:=(he 8 (by omega)).trans h8
 refine q04 ?_
 by_cases hlt':i<(idsZ a).length
 ·have hlti:(i:Int)<(idsZ a).length:=by omega
  have hwi:=q0W (i:=i) (by omega)
  have g1:((idsZ a).map q6q)[i]?=some (q6q (idsZ a)[i]):=by simp [hlt']
  have hd:=idsZ_rng a _ (List.getElem_mem hlt')
  have htk:(q5k a).take (i + 1)=(q5k a).take i++[⟨(idsZ a)[i],sName (idsZ a)[i]⟩]:=by
   have hl:i<(q5k a).length:=by simpa [q5k] using hlt'
   rw [<- List.take_append_getElem hl]
   simp [q5k]
  have hsl:((q5k a).take i).length=i:=by simp [q5k]; omega
  generalize (idsZ a)[i]=d at *
  have hlm:((idsZ a).map q6q).length=(idsZ a).length:=by simp
  generalize (idsZ a).map q6q=D at *
  generalize hS:(q5k a).take i=S at *
  obtain ⟨z,hz⟩:∃ z:Int,z=i:=⟨_,rfl⟩
  have hz0:0<=z:=by omega
  have hwz:IntKind.i64.wrap (z + 1)=((i + 1:Nat):Int):=by rw [hz]; exact hwi
  rw [<- hz] at e10 hlti
  rw [show i=z.toNat from by omega] at g1
  simp only [q6q] at g1
  have hw97:IntKind.i64.wrap (97 + d)=97 + d:=IntWalk.i64_in _ (by omega)
  have hw32:IntKind.i32.wrap (97 + d)=97 + d:=i32_in _ (by omega)
  have hes:=enc_size (97 + d)
  have hsz:(⟨#[115]⟩:ByteArray).size=1:=rfl
  have hnm:(⟨#[115]⟩:ByteArray).size + (Utf8.encode (97 + d)).size<=9223372036854775807:=by omega
  unfold sName at htk
  generalize hEn:Utf8.encode (97 + d)=en at *
  have hroom:q1E 24 (i + 1)=true:=by rw [q0s]; omega
  have hels:=els_sym S
  rcases hrow with ⟨hi0,hr⟩ | ⟨hi0,hr⟩
  ·have hS0:S=[]:=by rw [<- hS,hi0]; rfl
   subst hS0
   subst hi0
   simp only [q4M,List.map_nil] at hr
   simp [q2P,-Option.bind_some,-Int.toNat_lt,-List.map_map,List.range_succ,e8,e9,e10,hlm,hlti,hz0,g1,hw97,hw32,hEn,hnm,hr,hroom,hwz]
   refine ih hlt' _ ⟨fun t ht=>?_,?_,?_,?_,ho,?_,?_,?_,.inr ⟨by omega,?_⟩⟩
   ·have:=he t ht
    have q:∀ c,10<=c->¬ t=c:=fun c hc=>by omega
    simp [q,this]
   ·simp
   ·repeat (first | exact hst | refine Stay.set ?_ | refine Stay.strip ?_ _)
   ·simp only [hg,hG.same]
   ·dsimp only; omega
   ·exact ((hL.mono (by dsimp only; omega)).strip 91).set (q05 (by simp [AV.free,AV.free0]))
   ·dsimp only
    repeat (first | exact hE.mono (by omega) | refine LowE.put ?_ (fun _ _ _=>rfl) | refine LowE.put ?_ (q1i (by omega)) | refine LowE.strip ?_ _)
   ·simp [q4M,htk,symC]
  ·simp only [q4M] at hr
   simp [q2P,-Option.bind_some,-Int.toNat_lt,-List.map_map,List.range_succ,e8,e9,e10,hlm,hlti,hz0,g1,hw97,hw32,hEn,hnm,hr,hsl,hels,hroom,hwz]
   refine ih hlt' _ ⟨fun t ht=>?_,?_,?_,?_,ho,?_,?_,?_,.inr ⟨by omega,?_⟩⟩
   ·have:=he t ht
    have q:∀ c,10<=c->¬ t=c:=fun c hc=>by omega
    simp [q,this]
   ·simp
   ·repeat (first | exact hst | refine Stay.set ?_ | refine Stay.strip ?_ _)
   ·simp only [hg,hG.same]
   ·dsimp only; omega
   ·exact (((hL.mono (by dsimp only; omega)).strip 91).strip 91).set (q05 (by simp [AV.free,AV.free0]))
   ·dsimp only
    repeat (first | exact hE.mono (by omega) | refine LowE.put ?_ (fun _ _ _=>rfl) | refine LowE.put ?_ (q1i (by omega)) | refine LowE.strip ?_ _)
   ·simp [q4M,htk,symC]
 ·have hie:i=(idsZ a).length:=by omega
  have hlti:¬ (i:Int)<(idsZ a).length:=by omega
  simp [q2P,-Option.bind_some,-Int.toNat_lt,-List.map_map,List.range_succ,e9,e10,hlt']
  have hi0:¬ i=0:=by omega
  rcases hrow with ⟨h0,_⟩ | ⟨_,hr⟩
  ·exact absurd h0 hi0
  ·rw [List.take_of_length_le (by simp [q5k]; omega)] at hr
   refine hk _ _ ⟨rfl,fun t ht=>?_,hst,hg,ho,by dsimp only; omega,hL.mono (by dsimp only; omega),?_,_,hr⟩
   ·have:=he t (by omega)
    simp [show ¬ t=69 from by omega,show ¬ t=70 from by omega,show ¬ t=71 from by omega,show ¬ t=72 from by omega,this]
   ·dsimp only
    repeat (first | exact hE.mono (by omega) | refine LowE.put ?_ (fun _ _ _=>rfl))
end
section
set_option maxHeartbeats 4000000
def q1J:C:=.reg [⟨some 164,.faddr 0 (.t 5),none⟩,⟨some 165,.load .any false 1 (.t 164),none⟩,⟨some 166,.load .any true 10 (.t 8),none⟩,⟨some 167,.bslr 10 [(.int .i64 0),(.str (ByteArray.mk #[])),(.int .i64 0),(.int .i64 0),(.int .i64 0),(.sl true []),(.sl true []),(.int .i64 0),(.int .i64 0),(.bool false)] 1 [(0,(.t 166))],none⟩,⟨some 168,.appn .any 62 10 120 (.t 165) (.t 167),none⟩,⟨some 169,.faddr 0 (.t 5),none⟩,⟨none,.store .any false 1 (.t 169) (.t 168),none⟩]
def q0U:C:=.seq (.reg [⟨some 26,.faddr 0 (.t 1),none⟩,⟨some 27,.load .any false 1 (.t 26),none⟩,⟨some 28,.mv (.t 6),none⟩,⟨some 29,.iaddr 5 (.t 27) (.t 28),none⟩,⟨some 30,.load .any true 5 (.t 29),none⟩,⟨some 7,.alloc [(.int .u8 0),(.int .u8 0),(.int .u8 0),(.int .u8 0),(.sl true [])],none⟩,⟨none,.store .any true 5 (.t 7) (.t 30),none⟩]) (.seq (.reg [⟨some 31,.load .any true 1 (.t 1),none⟩,⟨some 32,.mv (.t 6),none⟩,⟨some 33,.call .any 51 [(.t 31),(.t 32)],none⟩,⟨some 34,.build [(.int .i64 0),(.str (ByteArray.mk #[])),(.int .i64 0),(.int .i64 0),(.int .i64 0),(.sl true []),(.sl true []),(.int .i64 0),(.int .i64 0),(.bool false)] [(0,(1,(.t 33)))],none⟩,⟨some 8,.alloc [(.int .i64 0),(.str (ByteArray.mk #[])),(.int .i64 0),(.int .i64 0),(.int .i64 0),(.sl true []),(.sl true []),(.int .i64 0),(.int .i64 0),(.bool false)],none⟩,⟨none,.store .any true 10 (.t 8) (.t 34),none⟩]) (.seq (.seq (.reg [⟨some 35,.faddr 0 (.t 8),none⟩,⟨some 36,.load .any false 1 (.t 35),none⟩,⟨some 37,.call .any 52 [(.t 36)],none⟩]) (.cond (.t 37) (.reg [⟨some 38,.mv (.t 6),none⟩,⟨some 39,.bin .add false (.c (.int .i64 65)) (.t 38),none⟩,⟨some 40,.conv (.some .i32) (.t 39),none⟩,⟨some 41,.rstr (.t 40),none⟩,⟨some 42,.faddr 1 (.t 8),none⟩,⟨none,.store .any false 1 (.t 42) (.t 41),none⟩]) .skip)) (.seq (.seq (.reg [⟨some 43,.faddr 0 (.t 8),none⟩,⟨some 44,.load .any false 1 (.t 43),none⟩]) (.block 2 (.seq (.reg [⟨some 46,.bin .eql false (.t 44) (.c (.int .i64 2)),none⟩,⟨some 45,.mv (.t 46),none⟩]) (.cond (.t 45) (.reg [⟨some 47,.load (.root 7) true 5 (.t 7),none⟩,⟨some 48,.call .any 53 [(.t 47)],none⟩,⟨some 49,.load (.root 7) true 5 (.t 7),none⟩,⟨some 50,.call .any 54 [(.t 49)],none⟩,⟨some 51,.faddr 2 (.t 8),none⟩,⟨none,.store (.root 8) false 1 (.t 51) (.t 48),none⟩,⟨some 52,.faddr 3 (.t 8),none⟩,⟨none,.store (.root 8) false 1 (.t 52) (.t 50),none⟩]) (.seq (.reg [⟨some 54,.bin .eql false (.t 44) (.c (.int .i64 3)),none⟩,⟨some 53,.mv (.t 54),none⟩]) (.cond (.t 53) (.reg [⟨some 55,.faddr 1 (.t 7),none⟩,⟨some 56,.load .any false 1 (.t 55),none⟩,⟨some 57,.bin .rem false (.t 56) (.c (.int .u8 4)),none⟩,⟨some 58,.conv (.some .i64) (.t 57),none⟩,⟨some 59,.faddr 4 (.t 8),none⟩,⟨none,.store .any false 1 (.t 59) (.t 58),none⟩]) (.seq (.reg [⟨some 61,.bin .eql false (.t 44) (.c (.int .i64 4)),none⟩,⟨some 60,.mv (.t 61),none⟩]) (.cond (.t 60) (.seq (.reg [⟨some 62,.faddr 2 (.t 7),none⟩,⟨some 63,.load .any false 1 (.t 62),none⟩,⟨some 64,.bin .rem false (.t 63) (.c (.int .u8 2)),none⟩,⟨some 65,.bin .eql false (.t 64) (.c (.int .u8 1)),none⟩,⟨some 66,.faddr 9 (.t 8),none⟩,⟨none,.store .any false 1 (.t 66) (.t 65),none⟩]) (.seq (.reg [⟨some 67,.load .any true 5 (.t 7),none⟩,⟨some 68,.call .any 55 [(.t 67)],none⟩,⟨some 9,.mv (.t 68),none⟩]) (.seq (.reg [⟨some 10,.mv (.c (.int .i64 0)),none⟩]) (.block 3 (.loop q2P))))) (.seq (.reg [⟨some 94,.bin .eql false (.t 44) (.c (.int .i64 5)),none⟩,⟨some 93,.mv (.t 94),none⟩]) (.cond (.t 93) (.reg [⟨some 95,.load .any true 1 (.t 1),none⟩,⟨some 96,.mv (.t 6),none⟩,⟨some 97,.callh 171 (.c (.fn 56 [])) [(.t 95),(.t 96),(.c (.bool true))],none⟩,⟨some 98,.faddr 6 (.t 8),none⟩,⟨none,.store .any false 1 (.t 98) (.t 97),none⟩]) (.seq (.reg [⟨some 100,.bin .eql false (.t 44) (.c (.int .i64 6)),none⟩,⟨some 99,.mv (.t 100),none⟩]) (.cond (.t 99) (.seq (.reg [⟨some 101,.faddr 2 (.t 7),none⟩,⟨some 102,.load .any false 1 (.t 101),none⟩,⟨some 103,.bin .rem false (.t 102) (.c (.int .u8 2)),none⟩,⟨some 104,.bin .eql false (.t 103) (.c (.int .u8 1)),none⟩,⟨some 105,.faddr 9 (.t 8),none⟩,⟨none,.store .any false 1 (.t 105) (.t 104),none⟩]) (.seq (.reg [⟨some 106,.load .any true 1 (.t 1),none⟩,⟨some 107,.mv (.t 6),none⟩,⟨some 108,.callh 171 (.c (.fn 56 [])) [(.t 106),(.t 107),(.c (.bool false))],none⟩,⟨some 109,.faddr 6 (.t 8),none⟩,⟨none,.store .any false 1 (.t 109) (.t 108),none⟩]) (.seq (.reg [⟨some 110,.faddr 6 (.t 8),none⟩,⟨some 111,.load .any false 1 (.t 110),none⟩,⟨some 112,.len false (.t 111),none⟩,⟨some 113,.bin .eql false (.t 112) (.c (.int .i64 0)),none⟩]) (.cond (.t 113) (.reg [⟨some 114,.faddr 1 (.t 8),none⟩,⟨some 115,.load .any false 1 (.t 114),none⟩,⟨some 116,.build [(.int .i64 0),(.str (ByteArray.mk #[])),(.int .i64 0),(.int .i64 0),(.int .i64 0),(.sl true []),(.sl true []),(.int .i64 0),(.int .i64 0),(.bool false)] [(0,(1,(.c (.int .i64 5)))),(1,(1,(.t 115)))],none⟩,⟨none,.store .any true 10 (.t 8) (.t 116),none⟩]) .skip)))) (.seq (.reg [⟨some 118,.bin .eql false (.t 44) (.c (.int .i64 7)),none⟩,⟨some 117,.mv (.t 118),none⟩]) (.cond (.t 117) (.reg [⟨some 119,.faddr 1 (.t 7),none⟩,⟨some 120,.load (.root 7) false 1 (.t 119),none⟩,⟨some 121,.bin .rem false (.t 120) (.c (.int .u8 4)),none⟩,⟨some 122,.conv (.some .i64) (.t 121),none⟩,⟨some 123,.faddr 3 (.t 7),none⟩,⟨some 124,.load (.root 7) false 1 (.t 123),none⟩,⟨some 125,.conv (.some .i64) (.t 124),none⟩,⟨some 126,.mv (.t 4),none⟩,⟨some 127,.bin .rem false (.t 125) (.t 126),none⟩,⟨some 128,.faddr 4 (.t 8),none⟩,⟨none,.store (.root 8) false 1 (.t 128) (.t 122),none⟩,⟨some 129,.faddr 8 (.t 8),none⟩,⟨none,.store (.root 8) false 1 (.t 129) (.t 127),none⟩]) (.seq (.reg [⟨some 131,.bin .eql false (.t 44) (.c (.int .i64 8)),none⟩,⟨some 130,.mv (.t 131),none⟩]) (.cond (.t 130) (.seq (.reg [⟨some 132,.faddr 1 (.t 7),none⟩,⟨some 133,.load (.root 7) false 1 (.t 132),none⟩,⟨some 134,.bin .rem false (.t 133) (.c (.int .u8 4)),none⟩,⟨some 135,.conv (.some .i64) (.t 134),none⟩,⟨some 136,.load (.root 1) true 1 (.t 1),none⟩,⟨some 137,.faddr 2 (.t 7),none⟩,⟨some 138,.load (.root 7) false 1 (.t 137),none⟩,⟨some 139,.call .any 57 [(.t 136),(.t 138)],none⟩,⟨some 140,.faddr 3 (.t 7),none⟩,⟨some 141,.load (.root 7) false 1 (.t 140),none⟩,⟨some 142,.conv (.some .i64) (.t 141),none⟩,⟨some 143,.mv (.t 4),none⟩,⟨some 144,.bin .rem false (.t 142) (.t 143),none⟩,⟨some 145,.faddr 4 (.t 8),none⟩,⟨none,.store (.root 8) false 1 (.t 145) (.t 135),none⟩,⟨some 146,.faddr 7 (.t 8),none⟩,⟨none,.store (.root 8) false 1 (.t 146) (.t 139),none⟩,⟨some 147,.faddr 8 (.t 8),none⟩,⟨none,.store (.root 8) false 1 (.t 147) (.t 144),none⟩]) (.seq (.reg [⟨some 148,.faddr 7 (.t 8),none⟩,⟨some 149,.load .any false 1 (.t 148),none⟩,⟨some 150,.bin .lss false (.t 149) (.c (.int .i64 0)),none⟩]) (.cond (.t 150) (.reg [⟨some 151,.faddr 4 (.t 8),none⟩,⟨some 152,.load .any false 1 (.t 151),none⟩,⟨some 153,.faddr 8 (.t 8),none⟩,⟨some 154,.load .any false 1 (.t 153),none⟩,⟨some 155,.build [(.int .i64 0),(.str (ByteArray.mk #[])),(.int .i64 0),(.int .i64 0),(.int .i64 0),(.sl true []),(.sl true []),(.int .i64 0),(.int .i64 0),(.bool false)] [(0,(1,(.c (.int .i64 7)))),(4,(1,(.t 152))),(8,(1,(.t 154)))],none⟩,⟨none,.store .any true 10 (.t 8) (.t 155),none⟩]) .skip))) (.seq (.reg [⟨some 157,.bin .eql false (.t 44) (.c (.int .i64 9)),none⟩,⟨some 156,.mv (.t 157),none⟩]) (.cond (.t 156) (.reg [⟨some 158,.faddr 3 (.t 7),none⟩,⟨some 159,.load .any false 1 (.t 158),none⟩,⟨some 160,.conv (.some .i64) (.t 159),none⟩,⟨some 161,.mv (.t 4),none⟩,⟨some 162,.bin .rem false (.t 160) (.t 161),none⟩,⟨some 163,.faddr 8 (.t 8),none⟩,⟨none,.store .any false 1 (.t 163) (.t 162),none⟩]) .skip)))))))))))))))))) q1J)))
theorem of_L2:q7H=.seq (.seq (.reg [⟨(.some 21),(.mv (.t 6)),.none⟩,⟨(.some 22),(.mv (.t 4)),.none⟩,⟨(.some 23),(.bin .lss .false (.t 21) (.t 22)),.none⟩]) (.cond (.t 23) .skip (.exit 0))) (.seq (.block 1 q0U) (.reg [⟨(.some 24),(.mv (.t 6)),.none⟩,⟨(.some 25),(.bin .add .false (.t 24) (.c (.int .i64 1))),.none⟩,⟨(.some 6),(.mv (.t 25)),.none⟩])):=rfl
def M5I (n0:Nat) (l:List Nde) (i:Nat) (s:MSt):Prop :=
 (i=0/\∃ a,s.mem 5 (n0 + 3)=some [⟨.sl true [],a⟩]/\q72 ⟨.sl true [],a⟩)\/∃ N L,¬ i=0/\s.mem 5 (n0 + 3)=some [⟨.ref 168 N 10 0 i i,.no⟩]/\n0<=N/\N<s.next/\s.mem 168 N=some (q0f L)/\L.length=i/\q61 ((List.range i).map fun (j:Nat)=>typZ l (j:Int)) L s
theorem M5I.keep {n0:Nat} {l:List Nde} {i:Nat} {s s':MSt} (h:M5I n0 l i s) (h5:s'.mem 5 (n0 + 3)=s.mem 5 (n0 + 3)) (h168:∀ N,N<s.next->s'.mem 168 N=s.mem 168 N) (h88:∀ N,N<s.next->s'.mem 88 N=s.mem 88 N) (hn:s.next<=s'.next):M5I n0 l i s':=by
 rcases h with ⟨h1,a,h2,h3⟩ | ⟨N,L,h1,h2,h0,h3,h4,h6,h7⟩
 ·exact .inl ⟨h1,a,h5.trans h2,h3⟩
 ·exact .inr ⟨N,L,h1,h5.trans h2,h0,Nat.lt_of_lt_of_le h3 hn,(h168 N h3).trans h4,h6,h7.keep h88 hn⟩
structure OfI (n0:Nat) (s0:MSt) (dn:Bool) (l:List Nde) (i:Nat) (s:MSt):Prop where
 e1:(s.env 1).v=.ptr 1 n0 0
 m1:s.mem 1 n0=some [⟨.sl dn (l.map ndeC),.no⟩]
 e2:(s.env 2).v=.ptr 2 n0 0
 m2:∃ a,s.mem 2 n0=some [⟨.sl true [],a⟩]/\q72 ⟨.sl true [],a⟩
 e4:(s.env 4).v=.int .i64 l.length
 e5:(s.env 5).v=.ptr 5 (n0 + 3) 0
 e6:(s.env 6).v=.int .i64 i
 m5:M5I n0 l i s
 calm:Calm n0 s0 s
 lowE:LowE s.next s.env
 lt:n0 + 3<s.next
structure q7m (n0:Nat) (s0:MSt) (dn:Bool) (l:List Nde) (i:Nat) (n8:Nat) (s:MSt):Prop where
 ofI:OfI n0 s0 dn l i s
 e8:(s.env 8).v=.ptr 8 n8 0
 lt8:n8<s.next
 row:∃ m r,s.mem 8 n8=some r/\r.map (·.v)=typL (typZ l (i:Int)) m/\q5R (typZ l (i:Int)).mems m s
theorem kind1_ev {r:RV} {n0:Nat} {s0:MSt} {dn:Bool} {l:List Nde} (hl:oks l) {i:Nat} (hi:i<l.length) {s:MSt} {k:Ex->MSt->Option RV} (h:OfI n0 s0 dn l i s) (hk1:(ndAt l (i:Int)).kind=1) (hk:∀ n8 s',q7m n0 s0 dn l i n8 s'->q1J.run (evC allT q02) (evK allT q02) s' k=some r):q0U.run (evC allT q02) (evK allT q02) s k=some r:=by
 obtain ⟨e1,m1,e2,m2,e4,e5,e6,m5,⟨cm,cg,co,cn,cl⟩,lowE,lt⟩:=h
 have hkd:=q3N (dn:=dn) hl (z:=(i:Int)) (by omega) (by omega)
 have g:l[i]?=some l[i]:=List.getElem?_eq_getElem hi
 have gm:(l.map ndeC)[i]?=some (ndeC (ndAt l (i:Int))):=by simp [ndAt,g]
 have hkk:kdAt l (i:Int)=1:=by rw [<- hk1]; simp [kdAt,ndAt,g]
 have hty:typZ l (i:Int)=Typ.of 1 ⟨#[]⟩:=by simp only [typZ,hk1]
 rw [hkk] at hkd
 generalize ndAt l (i:Int)=x at *
 have hnm:=q1w 1
 simp only [evA,dftC,ndeC] at hkd gm
 obtain ⟨z,hz⟩:∃ z:Int,z=i:=⟨_,rfl⟩
 have hz0:0<=z:=by omega
 rw [<- hz] at e6 hkd
 rw [show i=z.toNat from by omega] at gm
 simp [q0U,-Option.bind_some,-Int.toNat_lt,-List.map_map,List.range_succ,e1,m1,e4,e6,hz0,gm,hkd,hnm]
 refine hk (s.next + 1) _ ⟨⟨?_,?_,?_,?_,?_,?_,?_,?_,⟨?_,?_,?_,?_,?_⟩,?_,?_⟩,?_,?_,?_⟩
 ·simp [e1]
 ·simp [m1]
 ·simp [e2]
 ·simpa using m2
 ·simp [e4]
 ·simp [e5]
 ·simp [e6,hz]
 ·exact m5.keep (by simp) (fun N _=>by simp) (fun N _=>by simp) (by dsimp only; omega)
 ·repeat (first | exact cm | refine q27.set ?_ (by omega))
 ·exact cg
 ·exact co
 ·dsimp only; omega
 ·exact ((((cl.mono (by dsimp only; omega)).set (q05 (by simp [AV.free,AV.free0]))).set (q05 (by simp [AV.free,AV.free0]))).set (q05 (by simp [AV.free,AV.free0]))).set (q05 (by simp [AV.free,AV.free0]))
 ·dsimp only
  repeat (first | exact lowE.mono (by omega) | refine LowE.put ?_ (fun _ _ _=>rfl) | refine LowE.put ?_ (q1i (by omega)))
 ·dsimp only; omega
 ·simp
 ·dsimp only; omega
 ·refine ⟨.sl true [],_,by simp; rfl,?_,.inl ⟨?_,rfl⟩⟩
  ·rw [hty]; simp [typL,Typ.of]
  ·rw [hty]; rfl
end
section
set_option maxHeartbeats 4000000
theorem hx0 (x:Nde) (hx:x.ok):u8 x.k/\u8 x.a/\u8 x.b/\u8 x.c/\True:=⟨hx.1,hx.2.1,hx.2.2.1,hx.2.2.2.1,trivial⟩
theorem q3e {l:List Nde} (hl:oks l) {i:Nat} (hi:i<l.length):(ndAt l (i:Int)).ok:=by
 have g:l[i]?=some l[i]:=List.getElem?_eq_getElem hi
 simp only [ndAt,Int.toNat_natCast,g]
 exact hl.2.2 _ (List.getElem_mem hi)
theorem kind2_ev {r:RV} {n0:Nat} {s0:MSt} {dn:Bool} {l:List Nde} (hl:oks l) {i:Nat} (hi:i<l.length) {s:MSt} {k:Ex->MSt->Option RV} (h:OfI n0 s0 dn l i s) (hk1:(ndAt l (i:Int)).kind=2) (hk:∀ n8 s',q7m n0 s0 dn l i n8 s'->q1J.run (evC allT q02) (evK allT q02) s' k=some r):q0U.run (evC allT q02) (evK allT q02) s k=some r:=by
 obtain ⟨e1,m1,e2,m2,e4,e5,e6,m5,⟨cm,cg,co,cn,cl⟩,lowE,lt⟩:=h
 have hkd:=q3N (dn:=dn) hl (z:=(i:Int)) (by omega) (by omega)
 have g:l[i]?=some l[i]:=List.getElem?_eq_getElem hi
 have gm:(l.map ndeC)[i]?=some (ndeC (ndAt l (i:Int))):=by simp [ndAt,g]
 have hkk:kdAt l (i:Int)=2:=by rw [<- hk1]; simp [kdAt,ndAt,g]
 have hty:typZ l (i:Int)={ Typ.of 2 ⟨#[]⟩ with low:=(ndAt l (i:Int)).low,high:=(ndAt l (i:Int)).high }:=by simp only [typZ,hk1]
 have hx:=q3e hl hi
 rw [hkk] at hkd
 generalize ndAt l (i:Int)=x at *
 have hnm:=q1w 2
 obtain ⟨xk,xa,xb,xc,_⟩:=hx0 x hx
 have hlow:=low_ev x hx
 have hhigh:=high_ev x hx
 simp only [evA,ndeC] at hlow hhigh
 simp only [evA,dftC,ndeC] at hkd gm
 obtain ⟨z,hz⟩:∃ z:Int,z=i:=⟨_,rfl⟩
 have hz0:0<=z:=by omega
 rw [<- hz] at e6 hkd
 rw [show i=z.toNat from by omega] at gm
 simp [q0U,-Option.bind_some,-Int.toNat_lt,-List.map_map,List.range_succ,e1,m1,e4,e6,hz0,gm,hkd,hnm,hlow,hhigh]
 refine hk (s.next + 1) _ ⟨⟨?_,?_,?_,?_,?_,?_,?_,?_,⟨?_,?_,?_,?_,?_⟩,?_,?_⟩,?_,?_,?_⟩
 ·simp [e1]
 ·simp [m1]
 ·simp [e2]
 ·simpa using m2
 ·simp [e4]
 ·simp [e5]
 ·simp [e6,hz]
 ·exact m5.keep (by simp) (fun N _=>by simp) (fun N _=>by simp) (by dsimp only; omega)
 ·repeat (first | exact cm | refine q27.set ?_ (by omega))
 ·exact cg
 ·exact co
 ·dsimp only; omega
 ·exact ((((((cl.mono (by dsimp only; omega)).set (q05 (by simp [AV.free,AV.free0]))).set (q05 (by simp [AV.free,AV.free0]))).set (q05 (by simp [AV.free,AV.free0]))).set (q05 (by simp [AV.free,AV.free0]))).set (q05 (by simp [AV.free,AV.free0]))).set (q05 (by simp [AV.free,AV.free0]))
 ·dsimp only
  repeat (first | exact lowE.mono (by omega) | refine LowE.put ?_ (fun _ _ _=>rfl) | refine LowE.put ?_ (q1i (by omega)))
 ·dsimp only; omega
 ·simp
 ·dsimp only; omega
 ·refine ⟨.sl true [],_,by simp; rfl,?_,.inl ⟨?_,rfl⟩⟩
  ·rw [hty]; simp [typL,Typ.of]
  ·rw [hty]; rfl
theorem kind3_ev {r:RV} {n0:Nat} {s0:MSt} {dn:Bool} {l:List Nde} (hl:oks l) {i:Nat} (hi:i<l.length) {s:MSt} {k:Ex->MSt->Option RV} (h:OfI n0 s0 dn l i s) (hk1:(ndAt l (i:Int)).kind=3) (hk:∀ n8 s',q7m n0 s0 dn l i n8 s'->q1J.run (evC allT q02) (evK allT q02) s' k=some r):q0U.run (evC allT q02) (evK allT q02) s k=some r:=by
 obtain ⟨e1,m1,e2,m2,e4,e5,e6,m5,⟨cm,cg,co,cn,cl⟩,lowE,lt⟩:=h
 have hkd:=q3N (dn:=dn) hl (z:=(i:Int)) (by omega) (by omega)
 have g:l[i]?=some l[i]:=List.getElem?_eq_getElem hi
 have gm:(l.map ndeC)[i]?=some (ndeC (ndAt l (i:Int))):=by simp [ndAt,g]
 have hkk:kdAt l (i:Int)=3:=by rw [<- hk1]; simp [kdAt,ndAt,g]
 have hty:typZ l (i:Int)={ Typ.of 3 ⟨#[]⟩ with max:=(ndAt l (i:Int)).a % 4 }:=by simp only [typZ,hk1]
 have hx:=q3e hl hi
 rw [hkk] at hkd
 generalize ndAt l (i:Int)=x at *
 have hnm:=q1w 3
 obtain ⟨xk,xa,xb,xc,_⟩:=hx0 x hx
 have ha4:x.a.tmod 4=x.a % 4:=Int.tmod_eq_emod_of_nonneg xa.1
 have hw4:IntKind.i64.wrap (x.a % 4)=x.a % 4:=IntWalk.i64_in _ (by omega)
 simp only [evA,dftC,ndeC] at hkd gm
 obtain ⟨z,hz⟩:∃ z:Int,z=i:=⟨_,rfl⟩
 have hz0:0<=z:=by omega
 rw [<- hz] at e6 hkd
 rw [show i=z.toNat from by omega] at gm
 simp [q0U,-Option.bind_some,-Int.toNat_lt,-List.map_map,List.range_succ,e1,m1,e4,e6,hz0,gm,hkd,hnm,ha4,hw4]
 refine hk (s.next + 1) _ ⟨⟨?_,?_,?_,?_,?_,?_,?_,?_,⟨?_,?_,?_,?_,?_⟩,?_,?_⟩,?_,?_,?_⟩
 ·simp [e1]
 ·simp [m1]
 ·simp [e2]
 ·simpa using m2
 ·simp [e4]
 ·simp [e5]
 ·simp [e6,hz]
 ·exact m5.keep (by simp) (fun N _=>by simp) (fun N _=>by simp) (by dsimp only; omega)
 ·repeat (first | exact cm | refine q27.set ?_ (by omega))
 ·exact cg
 ·exact co
 ·dsimp only; omega
 ·exact (((((cl.mono (by dsimp only; omega)).set (q05 (by simp [AV.free,AV.free0]))).set (q05 (by simp [AV.free,AV.free0]))).set (q05 (by simp [AV.free,AV.free0]))).set (q05 (by simp [AV.free,AV.free0]))).set (q05 (by simp [AV.free,AV.free0]))
 ·dsimp only
  repeat (first | exact lowE.mono (by omega) | refine LowE.put ?_ (fun _ _ _=>rfl) | refine LowE.put ?_ (q1i (by omega)))
 ·dsimp only; omega
 ·simp
 ·dsimp only; omega
 ·refine ⟨.sl true [],_,by simp; rfl,?_,.inl ⟨?_,rfl⟩⟩
  ·rw [hty]; simp [typL,Typ.of]
  ·rw [hty]; rfl
theorem kind7_ev {r:RV} {n0:Nat} {s0:MSt} {dn:Bool} {l:List Nde} (hl:oks l) {i:Nat} (hi:i<l.length) {s:MSt} {k:Ex->MSt->Option RV} (h:OfI n0 s0 dn l i s) (hk1:(ndAt l (i:Int)).kind=7) (hk:∀ n8 s',q7m n0 s0 dn l i n8 s'->q1J.run (evC allT q02) (evK allT q02) s' k=some r):q0U.run (evC allT q02) (evK allT q02) s k=some r:=by
 obtain ⟨e1,m1,e2,m2,e4,e5,e6,m5,⟨cm,cg,co,cn,cl⟩,lowE,lt⟩:=h
 have hkd:=q3N (dn:=dn) hl (z:=(i:Int)) (by omega) (by omega)
 have g:l[i]?=some l[i]:=List.getElem?_eq_getElem hi
 have gm:(l.map ndeC)[i]?=some (ndeC (ndAt l (i:Int))):=by simp [ndAt,g]
 have hkk:kdAt l (i:Int)=7:=by rw [<- hk1]; simp [kdAt,ndAt,g]
 have hty:typZ l (i:Int)={ Typ.of 7 ⟨#[]⟩ with max:=(ndAt l (i:Int)).a % 4,elem:=(ndAt l (i:Int)).c % l.length }:=by simp only [typZ,hk1]
 have hx:=q3e hl hi
 rw [hkk] at hkd
 generalize ndAt l (i:Int)=x at *
 have hnm:=q1w 7
 obtain ⟨xk,xa,xb,xc,_⟩:=hx0 x hx
 have ha4:x.a.tmod 4=x.a % 4:=Int.tmod_eq_emod_of_nonneg xa.1
 have hw4:IntKind.i64.wrap (x.a % 4)=x.a % 4:=IntWalk.i64_in _ (by omega)
 have hwc:IntKind.i64.wrap x.c=x.c:=IntWalk.i64_in _ (by simp only [u8] at xc; omega)
 have hmc:x.c.tmod l.length=x.c % l.length:=Int.tmod_eq_emod_of_nonneg xc.1
 have hN0:¬ (l.length:Int)=0:=by omega
 have hl0:¬ l=[]:=by intro e; rw [e] at hi; simp at hi
 simp only [evA,dftC,ndeC] at hkd gm
 obtain ⟨z,hz⟩:∃ z:Int,z=i:=⟨_,rfl⟩
 have hz0:0<=z:=by omega
 rw [<- hz] at e6 hkd
 rw [show i=z.toNat from by omega] at gm
 simp [q0U,-Option.bind_some,-Int.toNat_lt,-List.map_map,List.range_succ,e1,m1,e4,e6,hz0,gm,hkd,hnm,ha4,hw4,hwc,hmc,hN0,hl0]
 refine hk (s.next + 1) _ ⟨⟨?_,?_,?_,?_,?_,?_,?_,?_,⟨?_,?_,?_,?_,?_⟩,?_,?_⟩,?_,?_,?_⟩
 ·simp [e1]
 ·simp [m1]
 ·simp [e2]
 ·simpa using m2
 ·simp [e4]
 ·simp [e5]
 ·simp [e6,hz]
 ·exact m5.keep (by simp) (fun N _=>by simp) (fun N _=>by simp) (by dsimp only; omega)
 ·repeat (first | exact cm | refine q27.set ?_ (by omega))
 ·exact cg
 ·exact co
 ·dsimp only; omega
 ·exact ((((((cl.mono (by dsimp only; omega)).set (q05 (by simp [AV.free,AV.free0]))).set (q05 (by simp [AV.free,AV.free0]))).set (q05 (by simp [AV.free,AV.free0]))).set (q05 (by simp [AV.free,AV.free0]))).set (q05 (by simp [AV.free,AV.free0]))).set (q05 (by simp [AV.free,AV.free0]))
 ·dsimp only
  repeat (first | exact lowE.mono (by omega) | refine LowE.put ?_ (fun _ _ _=>rfl) | refine LowE.put ?_ (q1i (by omega)))
 ·dsimp only; omega
 ·simp
 ·dsimp only; omega
 ·refine ⟨.sl true [],_,by simp; rfl,?_,.inl ⟨?_,rfl⟩⟩
  ·rw [hty]; simp [typL,Typ.of]
  ·rw [hty]; rfl
theorem kind9_ev {r:RV} {n0:Nat} {s0:MSt} {dn:Bool} {l:List Nde} (hl:oks l) {i:Nat} (hi:i<l.length) {s:MSt} {k:Ex->MSt->Option RV} (h:OfI n0 s0 dn l i s) (hk1:(ndAt l (i:Int)).kind=9) (hk:∀ n8 s',q7m n0 s0 dn l i n8 s'->q1J.run (evC allT q02) (evK allT q02) s' k=some r):q0U.run (evC allT q02) (evK allT q02) s k=some r:=by
 obtain ⟨e1,m1,e2,m2,e4,e5,e6,m5,⟨cm,cg,co,cn,cl⟩,lowE,lt⟩:=h
 have hkd:=q3N (dn:=dn) hl (z:=(i:Int)) (by omega) (by omega)
 have g:l[i]?=some l[i]:=List.getElem?_eq_getElem hi
 have gm:(l.map ndeC)[i]?=some (ndeC (ndAt l (i:Int))):=by simp [ndAt,g]
 have hkk:kdAt l (i:Int)=9:=by rw [<- hk1]; simp [kdAt,ndAt,g]
 have hty:typZ l (i:Int)={ Typ.of 9 ⟨#[]⟩ with elem:=(ndAt l (i:Int)).c % l.length }:=by simp only [typZ,hk1]
 have hx:=q3e hl hi
 rw [hkk] at hkd
 generalize ndAt l (i:Int)=x at *
 have hnm:=q1w 9
 obtain ⟨xk,xa,xb,xc,_⟩:=hx0 x hx
 have hwc:IntKind.i64.wrap x.c=x.c:=IntWalk.i64_in _ (by simp only [u8] at xc; omega)
 have hmc:x.c.tmod l.length=x.c % l.length:=Int.tmod_eq_emod_of_nonneg xc.1
 have hN0:¬ (l.length:Int)=0:=by omega
 have hl0:¬ l=[]:=by intro e; rw [e] at hi; simp at hi
 simp only [evA,dftC,ndeC] at hkd gm
 obtain ⟨z,hz⟩:∃ z:Int,z=i:=⟨_,rfl⟩
 have hz0:0<=z:=by omega
 rw [<- hz] at e6 hkd
 rw [show i=z.toNat from by omega] at gm
 simp [q0U,-Option.bind_some,-Int.toNat_lt,-List.map_map,List.range_succ,e1,m1,e4,e6,hz0,gm,hkd,hnm,hwc,hmc,hN0,hl0]
 refine hk (s.next + 1) _ ⟨⟨?_,?_,?_,?_,?_,?_,?_,?_,⟨?_,?_,?_,?_,?_⟩,?_,?_⟩,?_,?_,?_⟩
 ·simp [e1]
 ·simp [m1]
 ·simp [e2]
 ·simpa using m2
 ·simp [e4]
 ·simp [e5]
 ·simp [e6,hz]
 ·exact m5.keep (by simp) (fun N _=>by simp) (fun N _=>by simp) (by dsimp only; omega)
 ·repeat (first | exact cm | refine q27.set ?_ (by omega))
 ·exact cg
 ·exact co
 ·dsimp only; omega
 ·exact (((((cl.mono (by dsimp only; omega)).set (q05 (by simp [AV.free,AV.free0]))).set (q05 (by simp [AV.free,AV.free0]))).set (q05 (by simp [AV.free,AV.free0]))).set (q05 (by simp [AV.free,AV.free0]))).set (q05 (by simp [AV.free,AV.free0]))
 ·dsimp only
  repeat (first | exact lowE.mono (by omega) | refine LowE.put ?_ (fun _ _ _=>rfl) | refine LowE.put ?_ (q1i (by omega)))
 ·dsimp only; omega
 ·simp
 ·dsimp only; omega
 ·refine ⟨.sl true [],_,by simp; rfl,?_,.inl ⟨?_,rfl⟩⟩
  ·rw [hty]; simp [typL,Typ.of]
  ·rw [hty]; rfl
theorem kind8n_ev {r:RV} {n0:Nat} {s0:MSt} {dn:Bool} {l:List Nde} (hl:oks l) {i:Nat} (hi:i<l.length) {s:MSt} {k:Ex->MSt->Option RV} (h:OfI n0 s0 dn l i s) (hk1:(ndAt l (i:Int)).kind=8) (hc:keyZ l (ndAt l (i:Int)).b<0) (hk:∀ n8 s',q7m n0 s0 dn l i n8 s'->q1J.run (evC allT q02) (evK allT q02) s' k=some r):q0U.run (evC allT q02) (evK allT q02) s k=some r:=by
 obtain ⟨e1,m1,e2,m2,e4,e5,e6,m5,⟨cm,cg,co,cn,cl⟩,lowE,lt⟩:=h
 have hkd:=q3N (dn:=dn) hl (z:=(i:Int)) (by omega) (by omega)
 have g:l[i]?=some l[i]:=List.getElem?_eq_getElem hi
 have gm:(l.map ndeC)[i]?=some (ndeC (ndAt l (i:Int))):=by simp [ndAt,g]
 have hkk:kdAt l (i:Int)=8:=by rw [<- hk1]; simp [kdAt,ndAt,g]
 have hty:typZ l (i:Int)={ Typ.of 7 ⟨#[]⟩ with max:=(ndAt l (i:Int)).a % 4,elem:=(ndAt l (i:Int)).c % l.length }:=by simp only [typZ,hk1]; rw [if_pos hc]
 have hx:=q3e hl hi
 rw [hkk] at hkd
 generalize ndAt l (i:Int)=x at *
 have hnm:=q1w 8
 obtain ⟨xk,xa,xb,xc,_⟩:=hx0 x hx
 have ha4:x.a.tmod 4=x.a % 4:=Int.tmod_eq_emod_of_nonneg xa.1
 have hw4:IntKind.i64.wrap (x.a % 4)=x.a % 4:=IntWalk.i64_in _ (by omega)
 have hwc:IntKind.i64.wrap x.c=x.c:=IntWalk.i64_in _ (by simp only [u8] at xc; omega)
 have hmc:x.c.tmod l.length=x.c % l.length:=Int.tmod_eq_emod_of_nonneg xc.1
 have hN0:¬ (l.length:Int)=0:=by omega
 have hl0:¬ l=[]:=by intro e; rw [e] at hi; simp at hi
 have hkey:=key_ev dn l hl x.b xb
 simp only [evA,dftC] at hkey
 simp only [evA,dftC,ndeC] at hkd gm
 obtain ⟨z,hz⟩:∃ z:Int,z=i:=⟨_,rfl⟩
 have hz0:0<=z:=by omega
 rw [<- hz] at e6 hkd
 rw [show i=z.toNat from by omega] at gm
 simp [q0U,-Option.bind_some,-Int.toNat_lt,-List.map_map,List.range_succ,e1,m1,e4,e6,hz0,gm,hkd,hnm,ha4,hw4,hwc,hmc,hN0,hl0,hkey,hc]
 refine hk (s.next + 1) _ ⟨⟨?_,?_,?_,?_,?_,?_,?_,?_,⟨?_,?_,?_,?_,?_⟩,?_,?_⟩,?_,?_,?_⟩
 ·simp [e1]
 ·simp [m1]
 ·simp [e2]
 ·simpa using m2
 ·simp [e4]
 ·simp [e5]
 ·simp [e6,hz]
 ·exact m5.keep (by simp) (fun N _=>by simp) (fun N _=>by simp) (by dsimp only; omega)
 ·repeat (first | exact cm | refine q27.set ?_ (by omega))
 ·exact cg
 ·exact co
 ·dsimp only; omega
 ·exact ((((((((cl.mono (by dsimp only; omega)).set (q05 (by simp [AV.free,AV.free0]))).set (q05 (by simp [AV.free,AV.free0]))).set (q05 (by simp [AV.free,AV.free0]))).set (q05 (by simp [AV.free,AV.free0]))).set (q05 (by simp [AV.free,AV.free0]))).set (q05 (by simp [AV.free,AV.free0]))).set (q05 (by simp [AV.free,AV.free0]))).set (q05 (by simp [AV.free,AV.free0]))
 ·dsimp only
  repeat (first | exact lowE.mono (by omega) | refine LowE.put ?_ (fun _ _ _=>rfl) | refine LowE.put ?_ (q1i (by omega)))
 ·dsimp only; omega
 ·simp
 ·dsimp only; omega
 ·refine ⟨.sl true [],_,by simp; rfl,?_,.inl ⟨?_,rfl⟩⟩
  ·rw [hty]; simp [typL,Typ.of]
  ·rw [hty]; rfl
theorem kind8p_ev {r:RV} {n0:Nat} {s0:MSt} {dn:Bool} {l:List Nde} (hl:oks l) {i:Nat} (hi:i<l.length) {s:MSt} {k:Ex->MSt->Option RV} (h:OfI n0 s0 dn l i s) (hk1:(ndAt l (i:Int)).kind=8) (hc:¬ keyZ l (ndAt l (i:Int)).b<0) (hk:∀ n8 s',q7m n0 s0 dn l i n8 s'->q1J.run (evC allT q02) (evK allT q02) s' k=some r):q0U.run (evC allT q02) (evK allT q02) s k=some r:=by
 obtain ⟨e1,m1,e2,m2,e4,e5,e6,m5,⟨cm,cg,co,cn,cl⟩,lowE,lt⟩:=h
 have hkd:=q3N (dn:=dn) hl (z:=(i:Int)) (by omega) (by omega)
 have g:l[i]?=some l[i]:=List.getElem?_eq_getElem hi
 have gm:(l.map ndeC)[i]?=some (ndeC (ndAt l (i:Int))):=by simp [ndAt,g]
 have hkk:kdAt l (i:Int)=8:=by rw [<- hk1]; simp [kdAt,ndAt,g]
 have hty:typZ l (i:Int)={ Typ.of 8 ⟨#[]⟩ with max:=(ndAt l (i:Int)).a % 4,key:=keyZ l (ndAt l (i:Int)).b,elem:=(ndAt l (i:Int)).c % l.length }:=by simp only [typZ,hk1]; rw [if_neg hc]
 have hx:=q3e hl hi
 rw [hkk] at hkd
 generalize ndAt l (i:Int)=x at *
 have hnm:=q1w 8
 obtain ⟨xk,xa,xb,xc,_⟩:=hx0 x hx
 have ha4:x.a.tmod 4=x.a % 4:=Int.tmod_eq_emod_of_nonneg xa.1
 have hw4:IntKind.i64.wrap (x.a % 4)=x.a % 4:=IntWalk.i64_in _ (by omega)
 have hwc:IntKind.i64.wrap x.c=x.c:=IntWalk.i64_in _ (by simp only [u8] at xc; omega)
 have hmc:x.c.tmod l.length=x.c % l.length:=Int.tmod_eq_emod_of_nonneg xc.1
 have hN0:¬ (l.length:Int)=0:=by omega
 have hl0:¬ l=[]:=by intro e; rw [e] at hi; simp at hi
 have hkey:=key_ev dn l hl x.b xb
 simp only [evA,dftC] at hkey
 simp only [evA,dftC,ndeC] at hkd gm
 obtain ⟨z,hz⟩:∃ z:Int,z=i:=⟨_,rfl⟩
 have hz0:0<=z:=by omega
 rw [<- hz] at e6 hkd
 rw [show i=z.toNat from by omega] at gm
 simp [q0U,-Option.bind_some,-Int.toNat_lt,-List.map_map,List.range_succ,e1,m1,e4,e6,hz0,gm,hkd,hnm,ha4,hw4,hwc,hmc,hN0,hl0,hkey,hc]
 refine hk (s.next + 1) _ ⟨⟨?_,?_,?_,?_,?_,?_,?_,?_,⟨?_,?_,?_,?_,?_⟩,?_,?_⟩,?_,?_,?_⟩
 ·simp [e1]
 ·simp [m1]
 ·simp [e2]
 ·simpa using m2
 ·simp [e4]
 ·simp [e5]
 ·simp [e6,hz]
 ·exact m5.keep (by simp) (fun N _=>by simp) (fun N _=>by simp) (by dsimp only; omega)
 ·repeat (first | exact cm | refine q27.set ?_ (by omega))
 ·exact cg
 ·exact co
 ·dsimp only; omega
 ·exact (((((((cl.mono (by dsimp only; omega)).set (q05 (by simp [AV.free,AV.free0]))).set (q05 (by simp [AV.free,AV.free0]))).set (q05 (by simp [AV.free,AV.free0]))).set (q05 (by simp [AV.free,AV.free0]))).set (q05 (by simp [AV.free,AV.free0]))).set (q05 (by simp [AV.free,AV.free0]))).set (q05 (by simp [AV.free,AV.free0]))
 ·dsimp only
  repeat (first | exact lowE.mono (by omega) | refine LowE.put ?_ (fun _ _ _=>rfl) | refine LowE.put ?_ (q1i (by omega)))
 ·dsimp only; omega
 ·simp
 ·dsimp only; omega
 ·refine ⟨.sl true [],_,by simp; rfl,?_,.inl ⟨?_,rfl⟩⟩
  ·rw [hty]; simp [typL,Typ.of]
  ·rw [hty]; rfl
end
section
set_option maxHeartbeats 4000000
theorem rowOf_pure (l:List (List AV)):∀ x∈q0f l,q72 x:=fun x hx=>by
 obtain ⟨v,_,rfl⟩:=List.mem_map.1 hx
 exact q5U v
theorem q5R.stay {ms:List Mem} {c:AV} {s s':MSt} (h:q5R ms c s) (hm:∀ n r,s.mem 88 n=some r->(∀ x∈r,q72 x)->s'.mem 88 n=some r) (hn:s.next<=s'.next):q5R ms c s':=by
 rcases h with h | ⟨N,h1,h2,h3,h4⟩
 ·exact .inl h
 ·exact .inr ⟨N,h1,Nat.lt_of_lt_of_le h2 hn,h3,hm N _ h4 (rowOf_pure _)⟩
theorem q61.stay {S:List Typ} {L:List (List AV)} {s s':MSt} (h:q61 S L s) (hm:∀ n r,s.mem 88 n=some r->(∀ x∈r,q72 x)->s'.mem 88 n=some r) (hn:s.next<=s'.next):q61 S L s' :=
 ⟨h.1,fun i t c ht hc=>by obtain ⟨m,h1,h2⟩:=h.2 i t c ht hc; exact ⟨m,h1,h2.stay hm hn⟩⟩
theorem M5I.stay {n0:Nat} {l:List Nde} {i:Nat} {s s':MSt} (h:M5I n0 l i s) (hm:∀ t n r,(t=5\/t=88\/t=168)->s.mem t n=some r->(∀ x∈r,q72 x)->s'.mem t n=some r) (hn:s.next<=s'.next):M5I n0 l i s':=by
 rcases h with ⟨h1,a,h2,h3⟩ | ⟨N,L,h1,h2,h0,h3,h4,h6,h7⟩
 ·exact .inl ⟨h1,a,hm 5 _ _ (.inl rfl) h2 (by simpa using h3),h3⟩
 ·exact .inr ⟨N,L,h1,hm 5 _ _ (.inl rfl) h2 (by simpa using q5U _),h0,Nat.lt_of_lt_of_le h3 hn,hm 168 _ _ (.inr (.inr rfl)) h4 (rowOf_pure _),h6,h7.stay (fun n r=>hm 88 n r (.inr (.inl rfl))) hn⟩
theorem kind4_ev {r:RV} {n0:Nat} {s0:MSt} {dn:Bool} {l:List Nde} (hl:oks l) (hG:q5V s0.gh) (hP:PureM n0 s0.mem) {i:Nat} (hi:i<l.length) {s:MSt} {k:Ex->MSt->Option RV} (h:OfI n0 s0 dn l i s) (hk1:(ndAt l (i:Int)).kind=4) (hk:∀ n8 s',q7m n0 s0 dn l i n8 s'->q1J.run (evC allT q02) (evK allT q02) s' k=some r):q0U.run (evC allT q02) (evK allT q02) s k=some r:=by
 obtain ⟨e1,m1,e2,m2,e4,e5,e6,m5,⟨cm,cg,co,cn,cl⟩,lowE,lt⟩:=h
 have hkd:=q3N (dn:=dn) hl (z:=(i:Int)) (by omega) (by omega)
 have g:l[i]?=some l[i]:=List.getElem?_eq_getElem hi
 have gm:(l.map ndeC)[i]?=some (ndeC (ndAt l (i:Int))):=by simp [ndAt,g]
 have hkk:kdAt l (i:Int)=4:=by rw [<- hk1]; simp [kdAt,ndAt,g]
 have hty:typZ l (i:Int)={ Typ.of 4 (q6e i) with opn:=decide ((ndAt l (i:Int)).b % 2=1),sn:=false,syms:=q5k (ndAt l (i:Int)).a }:=by simp only [typZ,hk1]
 have hx:=q3e hl hi
 have hN5:=hl.2.1
 rw [hkk] at hkd
 generalize ndAt l (i:Int)=x at *
 have hnm:=q1w 4
 have hids:=ids7_ev x hx
 obtain ⟨xk,xa,xb,xc,_⟩:=hx0 x hx
 have hb2:x.b.tmod 2=x.b % 2:=Int.tmod_eq_emod_of_nonneg xb.1
 simp only [evA,dftC,ndeC] at hkd gm hids
 obtain ⟨z,hz⟩:∃ z:Int,z=i:=⟨_,rfl⟩
 have hz0:0<=z:=by omega
 have hw65:IntKind.i64.wrap (65 + z)=65 + z:=IntWalk.i64_in _ (by omega)
 have hw32:IntKind.i32.wrap (65 + z)=65 + z:=i32_in _ (by omega)
 rw [<- hz] at e6 hkd
 rw [show i=z.toNat from by omega] at gm
 simp [q0U,-Option.bind_some,-Int.toNat_lt,-List.map_map,List.range_succ,e1,m1,e4,e6,hz0,gm,hkd,hnm,hids,hb2,hw65,hw32]
 refine esyms_ev (a:=x.a) (n8:=s.next + 1) (nm:=Utf8.encode (65 + z)) (op:=decide (x.b % 2=1)) _ _ ?_ ?_ ?_ ?_ ?_ ?_ ?_ ?_ (fun s' h1 h2 h3 h4 h5 h6 h7 h8=>?_)
 ·simp
 ·simp
 ·simp
 ·dsimp only; omega
 ·simp [q4M]
 ·show q5V s.gh
  rw [cg]; exact hG
 ·exact ((((((cl.mono (by dsimp only; omega)).set (q05 (by simp [AV.free,AV.free0]))).set (q05 (by simp [AV.free,AV.free0]))).set (q05 (by simp [AV.free,AV.free0]))).set (q05 (by simp [AV.free,AV.free0]))).set (q05 (by simp [AV.free,AV.free0]))).set (q05 (by simp [AV.free,AV.free0]))
 ·dsimp only
  repeat (first | exact lowE.mono (by omega) | refine LowE.put ?_ (fun _ _ _=>rfl) | refine LowE.put ?_ (q1i (by omega)))
 ·obtain ⟨an,h8⟩:=h8
  simp [-Option.bind_some,-Int.toNat_lt,-List.map_map,List.range_succ]
  have hst:∀ t n r,¬ t=8->¬ t=7->s.mem t n=some r->(∀ x∈r,q72 x)->s'.mem t n=some r:=fun t n r t8 t7 hr hp=>by
   refine (h2 t n (by omega) fun r' hr'=>?_).trans ?_
   ·simp [t7,t8,hr] at hr'
    subst hr'
    exact hp
   ·simp [t7,t8,hr]
  refine hk (s.next + 1) s' ⟨⟨(h1 1 (by omega)).trans (by simp [e1]),hst 1 n0 _ (by omega) (by omega) m1 (by simpa using q5U _),(h1 2 (by omega)).trans (by simp [e2]),?_,(h1 4 (by omega)).trans (by simp [e4]),(h1 5 (by omega)).trans (by simp [e5]),(h1 6 (by omega)).trans (by simp [e6,hz]),?_,⟨?_,?_,?_,?_,h6⟩,h7,?_⟩,(h1 8 (by omega)).trans (by simp),?_,?_⟩
  ·obtain ⟨a,m2,p2⟩:=m2
   exact ⟨a,hst 2 n0 _ (by omega) (by omega) m2 (by simpa using p2),p2⟩
  ·exact m5.stay (fun t n r ht=>hst t n r (by omega) (by omega)) (by dsimp only at h5; omega)
  ·intro t n hn
   refine (h2 t n (by omega) fun r' hr'=>?_).trans ?_
   ·simp [show ¬ n=s.next from by omega,show ¬ n=s.next + 1 from by omega,cm t n hn] at hr'
    exact hP t n r' hn hr'
   ·simp [show ¬ n=s.next from by omega,show ¬ n=s.next + 1 from by omega,cm t n hn]
  ·rw [h3]; exact cg
  ·rw [h4]; exact co
  ·dsimp only at h5; omega
  ·dsimp only at h5; omega
  ·dsimp only at h5; omega
  ·refine ⟨.sl true [],_,h8,?_,.inl ⟨?_,rfl⟩⟩
   ·rw [hty,hz]; simp [typL,Typ.of,q4M,q6e]
   ·rw [hty]; rfl
end
section
set_option maxHeartbeats 4000000
theorem LowE.wait {m nt:Nat} {e g:Nat->Slot} (h:LowE m e) (h':LowE m g):LowE m (waitE nt e g):=fun t=>by
 rw [q1u]
 split
 ·exact h t
 ·exact h' _
theorem LowE.back {m nt:Nat} {g:Nat->Slot} (h:LowE m g):LowE m (backE nt g):=fun t=>by
 rw [q6Q]
 split
 ·exact h t
 ·exact fun _ _ _=>rfl
theorem rest_wait (nt:Nat) (e g:Nat->Slot):restE nt (waitE nt e g)=g:=funext fun t=>by
 rw [restE_at,q1u,if_neg (by omega)]
 congr 1
 omega
theorem q5R.lowV {ms:List Mem} {c:AV} {s:MSt} (h:q5R ms c s):lowV s.next c:=lowV_of h.low (by
 rcases h with ⟨_,rfl⟩ | ⟨N,_,_,rfl,_⟩ <;> rfl)
theorem kind5_ev {r:RV} {n0:Nat} {s0:MSt} {dn:Bool} {l:List Nde} (hl:oks l) (hG:LowE n0 s0.gh) {i:Nat} (hi:i<l.length) {s:MSt} {k:Ex->MSt->Option RV} (h:OfI n0 s0 dn l i s) (hk1:(ndAt l (i:Int)).kind=5) (hk:∀ n8 s',q7m n0 s0 dn l i n8 s'->q1J.run (evC allT q02) (evK allT q02) s' k=some r):q0U.run (evC allT q02) (evK allT q02) s k=some r:=by
 obtain ⟨e1,m1,e2,m2,e4,e5,e6,m5,⟨cm,cg,co,cn,cl⟩,lowE,lt⟩:=h
 have hkd:=q3N (dn:=dn) hl (z:=(i:Int)) (by omega) (by omega)
 have g:l[i]?=some l[i]:=List.getElem?_eq_getElem hi
 have gm:(l.map ndeC)[i]?=some (ndeC (ndAt l (i:Int))):=by simp [ndAt,g]
 have gx:l[((i:Int)).toNat]?=some (ndAt l (i:Int)):=by simp [ndAt,g]
 have hkk:kdAt l (i:Int)=5:=by rw [<- hk1]; simp [kdAt,ndAt,g]
 have hty:typZ l (i:Int)={ Typ.of 5 (q6e (i:Int)) with mn:=(q2E l (i:Int) true (ndAt l (i:Int)).parts).isEmpty,mems:=(q2E l (i:Int) true (ndAt l (i:Int)).parts) }:=by simp only [typZ,hk1]
 have hx:=q3e hl hi
 have hN5:=hl.2.1
 rw [hkk] at hkd
 generalize ndAt l (i:Int)=x at *
 have hnm:=q1w 5
 obtain ⟨xk,xa,xb,xc,_⟩:=hx0 x hx
 have hb2:x.b.tmod 2=x.b % 2:=Int.tmod_eq_emod_of_nonneg xb.1
 simp only [evA,dftC,ndeC] at hkd gm
 obtain ⟨z,hz⟩:∃ z:Int,z=i:=⟨_,rfl⟩
 have hz0:0<=z:=by omega
 have hz1:z<l.length:=by omega
 have hw65:IntKind.i64.wrap (65 + z)=65 + z:=IntWalk.i64_in _ (by omega)
 have hw32:IntKind.i32.wrap (65 + z)=65 + z:=i32_in _ (by omega)
 rw [<- hz] at e6 hkd gx hty
 rw [show i=z.toNat from by omega] at gm
 simp [q0U,-Option.bind_some,-Int.toNat_lt,-List.map_map,List.range_succ,e1,m1,e4,e6,hz0,gm,hkd,hnm,hw65,hw32,hb2]
 refine parts_ev hl hz0 hz1 gx _ ?_ ?_ _ (fun y s' hc hli=>?_)
 ·exact (((((cl.mono (by dsimp only; omega)).set (q05 (by simp [AV.free,AV.free0]))).set (q05 (by simp [AV.free,AV.free0]))).set (q05 (by simp [AV.free,AV.free0]))).set (q05 (by simp [AV.free,AV.free0]))).set (q05 (by simp [AV.free,AV.free0]))
 ·dsimp only
  refine LowE.wait ?_ (by rw [cg]; exact hG.mono (by omega))
  repeat (first | exact lowE.mono (by omega) | refine LowE.put ?_ (fun _ _ _=>rfl) | refine LowE.put ?_ (q1i (by omega)))
 ·obtain ⟨cm2,cg2,co2,cn2,cl2⟩:=hc
  dsimp only at cg2 co2 cn2 cm2
  have hms:=hli.mems
  have hyl:=hms.lowV
  have g1:(s'.gh 1).v=.ptr 1 n0 0:=by rw [cg2]; simp [q1u,e1]
  have g2:(s'.gh 2).v=.ptr 2 n0 0:=by rw [cg2]; simp [q1u,e2]
  have g4:(s'.gh 4).v=.int .i64 l.length:=by rw [cg2]; simp [q1u,e4]
  have g5:(s'.gh 5).v=.ptr 5 (n0 + 3) 0:=by rw [cg2]; simp [q1u,e5]
  have g6:(s'.gh 6).v=.int .i64 z:=by rw [cg2]; simp [q1u,e6]
  have g8:(s'.gh 8).v=.ptr 8 (s.next + 1) 0:=by rw [cg2]; simp [q1u]
  have m8:s'.mem 8 (s.next + 1)=some [⟨.int .i64 5,.no⟩,⟨.str (Utf8.encode (65 + z)),.no⟩,⟨.int .i64 0,.no⟩,⟨.int .i64 0,.no⟩,⟨.int .i64 0,.no⟩,⟨.sl true [],.no⟩,⟨.sl true [],.no⟩,⟨.int .i64 0,.no⟩,⟨.int .i64 0,.no⟩,⟨.bool false,.no⟩]:=by rw [cm2 8 (s.next + 1) (by omega)]; simp
  have hgl:LowE s'.next s'.gh:=by
   rw [cg2]
   refine LowE.wait ?_ (by rw [cg]; exact hG.mono (by omega))
   repeat (first | exact lowE.mono (by omega) | refine LowE.put ?_ (fun _ _ _=>rfl) | refine LowE.put ?_ (q1i (by omega)))
  have fin:∀ (E:Nat->Slot) (M:Nat->Nat->Option (List Slot)) (row:List Slot) (nx:Nat),(∀ t,t<9->(E t).v=(s'.gh t).v)->LowE s'.next E->s'.next<nx->(∀ t n,M t n=if t=8/\n=s.next + 1 then some row else s'.mem t n)->(∀ q∈row,lowV s'.next q.v)->(∃ m,row.map (·.v)=typL (typZ l z) m/\q5R (typZ l z).mems m s')->q7m n0 s0 dn l i (s.next + 1) ⟨E,M,nx,s'.obj,restE 171 s'.gh⟩:=fun E M row nx hE hEl hnx hM hrl hr=>by
   refine ⟨⟨?_,?_,?_,?_,?_,?_,?_,?_,⟨?_,?_,?_,?_,?_⟩,?_,?_⟩,?_,?_,?_⟩
   ·exact (hE 1 (by omega)).trans g1
   ·simp [hM,cm2 1 n0 (by omega),m1]
   ·exact (hE 2 (by omega)).trans g2
   ·simpa [hM,cm2 2 n0 (by omega)] using m2
   ·exact (hE 4 (by omega)).trans g4
   ·exact (hE 5 (by omega)).trans g5
   ·exact (hE 6 (by omega)).trans (by rw [g6,hz])
   ·refine m5.keep (by simp [hM,cm2 5 (n0 + 3) (by omega)]) (fun N hN=>by simp [hM,cm2 168 N (by omega)]) (fun N hN=>by simp [hM,cm2 88 N (by omega)]) (by dsimp only; omega)
   ·intro t n hn
    show M t n=_
    rw [hM,if_neg (by omega),cm2 t n (by omega)]
    simp [show ¬ n=s.next from by omega,show ¬ n=s.next + 1 from by omega,cm t n hn]
   ·show restE 171 s'.gh=s0.gh
    rw [cg2,rest_wait]
    exact cg
   ·exact co2.trans co
   ·dsimp only; omega
   ·intro t n r' hr' q hq
    have hr':M t n=some r':=hr'
    rw [hM] at hr'
    split at hr'
    ·injection hr' with hr'; subst hr'
     exact q46 (by dsimp only; omega) (hrl q hq)
    ·exact q46 (by dsimp only; omega) (cl2 t n r' hr' q hq)
   ·exact hEl.mono (by dsimp only; omega)
   ·dsimp only; omega
   ·exact (hE 8 (by omega)).trans g8
   ·dsimp only; omega
   ·obtain ⟨m,hr1,hr2⟩:=hr
    rw [<- hz]
    refine ⟨m,row,by show M 8 _=_; rw [hM,if_pos ⟨rfl,rfl⟩],hr1,hr2.keep (fun N hN=>?_) (by dsimp only; omega)⟩
    show M 88 N=_
    rw [hM,if_neg (by omega)]
  rcases hms with ⟨_,e⟩ | ⟨N,_,_,e,_⟩
  ·simp [-Option.bind_some,-Int.toNat_lt,-List.map_map,List.range_succ,g8,m8,e]
   refine hk _ _ (fin _ _ _ _ (fun t ht=>?_) ?_ (by omega) (fun t n=>by simp [q0t]; rfl) (fun q hq=>?_) ?_)
   ·have q:∀ c,9<=c->¬ t=c:=fun c hc=>by omega
    simp [q,q6Q,show t<171 from by omega]
   ·repeat (first | exact hgl.back | refine LowE.put ?_ (fun _ _ _=>rfl) | refine LowE.put ?_ (q1i (by omega)) | refine LowE.put ?_ hyl | refine LowE.put ?_ (by rw [<- e]; exact hyl))
   ·simp only [List.mem_cons,List.not_mem_nil,or_false] at hq
    rcases hq with rfl | rfl | rfl | rfl | rfl | rfl | rfl | rfl | rfl | rfl <;> first | exact q6u rfl | (rw [<- e]; exact hyl)
   ·exact ⟨y.v,by rw [hty,e]; simp [typL,Typ.of,q6e],by rw [hty]; exact hli.mems⟩
  ·simp [-Option.bind_some,-Int.toNat_lt,-List.map_map,List.range_succ,g8,m8,e]
   refine hk _ _ (fin _ _ _ _ (fun t ht=>?_) ?_ (by omega) (fun t n=>by simp [q0t]; rfl) (fun q hq=>?_) ?_)
   ·have q:∀ c,9<=c->¬ t=c:=fun c hc=>by omega
    simp [q,q6Q,show t<171 from by omega]
   ·repeat (first | exact hgl.back | refine LowE.put ?_ (fun _ _ _=>rfl) | refine LowE.put ?_ (q1i (by omega)) | refine LowE.put ?_ hyl | refine LowE.put ?_ (by rw [<- e]; exact hyl))
   ·simp only [List.mem_cons,List.not_mem_nil,or_false] at hq
    rcases hq with rfl | rfl | rfl | rfl | rfl | rfl | rfl | rfl | rfl | rfl <;> first | exact q6u rfl | (rw [<- e]; exact hyl)
   ·exact ⟨y.v,by rw [hty,e]; simp [typL,Typ.of,q6e],by rw [hty]; exact hli.mems⟩
theorem kind6_ev {r:RV} {n0:Nat} {s0:MSt} {dn:Bool} {l:List Nde} (hl:oks l) (hG:LowE n0 s0.gh) {i:Nat} (hi:i<l.length) {s:MSt} {k:Ex->MSt->Option RV} (h:OfI n0 s0 dn l i s) (hk1:(ndAt l (i:Int)).kind=6) (hk:∀ n8 s',q7m n0 s0 dn l i n8 s'->q1J.run (evC allT q02) (evK allT q02) s' k=some r):q0U.run (evC allT q02) (evK allT q02) s k=some r:=by
 obtain ⟨e1,m1,e2,m2,e4,e5,e6,m5,⟨cm,cg,co,cn,cl⟩,lowE,lt⟩:=h
 have hkd:=q3N (dn:=dn) hl (z:=(i:Int)) (by omega) (by omega)
 have g:l[i]?=some l[i]:=List.getElem?_eq_getElem hi
 have gm:(l.map ndeC)[i]?=some (ndeC (ndAt l (i:Int))):=by simp [ndAt,g]
 have gx:l[((i:Int)).toNat]?=some (ndAt l (i:Int)):=by simp [ndAt,g]
 have hkk:kdAt l (i:Int)=6:=by rw [<- hk1]; simp [kdAt,ndAt,g]
 have hty:typZ l (i:Int)=if (q2E l (i:Int) false (ndAt l (i:Int)).parts).isEmpty=true then .of 5 (q6e (i:Int)) else { Typ.of 6 (q6e (i:Int)) with opn:=decide ((ndAt l (i:Int)).b % 2=1),mn:=false,mems:=(q2E l (i:Int) false (ndAt l (i:Int)).parts) }:=by simp only [typZ,hk1]
 have hx:=q3e hl hi
 have hN5:=hl.2.1
 rw [hkk] at hkd
 generalize ndAt l (i:Int)=x at *
 have hnm:=q1w 6
 obtain ⟨xk,xa,xb,xc,_⟩:=hx0 x hx
 have hb2:x.b.tmod 2=x.b % 2:=Int.tmod_eq_emod_of_nonneg xb.1
 simp only [evA,dftC,ndeC] at hkd gm
 obtain ⟨z,hz⟩:∃ z:Int,z=i:=⟨_,rfl⟩
 have hz0:0<=z:=by omega
 have hz1:z<l.length:=by omega
 have hw65:IntKind.i64.wrap (65 + z)=65 + z:=IntWalk.i64_in _ (by omega)
 have hw32:IntKind.i32.wrap (65 + z)=65 + z:=i32_in _ (by omega)
 rw [<- hz] at e6 hkd gx hty
 rw [show i=z.toNat from by omega] at gm
 simp [q0U,-Option.bind_some,-Int.toNat_lt,-List.map_map,List.range_succ,e1,m1,e4,e6,hz0,gm,hkd,hnm,hw65,hw32,hb2]
 refine parts_ev hl hz0 hz1 gx _ ?_ ?_ _ (fun y s' hc hli=>?_)
 ·exact ((((((cl.mono (by dsimp only; omega)).set (q05 (by simp [AV.free,AV.free0]))).set (q05 (by simp [AV.free,AV.free0]))).set (q05 (by simp [AV.free,AV.free0]))).set (q05 (by simp [AV.free,AV.free0]))).set (q05 (by simp [AV.free,AV.free0]))).set (q05 (by simp [AV.free,AV.free0]))
 ·dsimp only
  refine LowE.wait ?_ (by rw [cg]; exact hG.mono (by omega))
  repeat (first | exact lowE.mono (by omega) | refine LowE.put ?_ (fun _ _ _=>rfl) | refine LowE.put ?_ (q1i (by omega)))
 ·obtain ⟨cm2,cg2,co2,cn2,cl2⟩:=hc
  dsimp only at cg2 co2 cn2 cm2
  have hms:=hli.mems
  have hyl:=hms.lowV
  have g1:(s'.gh 1).v=.ptr 1 n0 0:=by rw [cg2]; simp [q1u,e1]
  have g2:(s'.gh 2).v=.ptr 2 n0 0:=by rw [cg2]; simp [q1u,e2]
  have g4:(s'.gh 4).v=.int .i64 l.length:=by rw [cg2]; simp [q1u,e4]
  have g5:(s'.gh 5).v=.ptr 5 (n0 + 3) 0:=by rw [cg2]; simp [q1u,e5]
  have g6:(s'.gh 6).v=.int .i64 z:=by rw [cg2]; simp [q1u,e6]
  have g8:(s'.gh 8).v=.ptr 8 (s.next + 1) 0:=by rw [cg2]; simp [q1u]
  have m8:s'.mem 8 (s.next + 1)=some [⟨.int .i64 6,.no⟩,⟨.str (Utf8.encode (65 + z)),.no⟩,⟨.int .i64 0,.no⟩,⟨.int .i64 0,.no⟩,⟨.int .i64 0,.no⟩,⟨.sl true [],.no⟩,⟨.sl true [],.no⟩,⟨.int .i64 0,.no⟩,⟨.int .i64 0,.no⟩,⟨.bool (decide (x.b % 2=1)),.no⟩]:=by rw [cm2 8 (s.next + 1) (by omega)]; simp
  have hgl:LowE s'.next s'.gh:=by
   rw [cg2]
   refine LowE.wait ?_ (by rw [cg]; exact hG.mono (by omega))
   repeat (first | exact lowE.mono (by omega) | refine LowE.put ?_ (fun _ _ _=>rfl) | refine LowE.put ?_ (q1i (by omega)))
  have fin:∀ (E:Nat->Slot) (M:Nat->Nat->Option (List Slot)) (row:List Slot) (nx:Nat),(∀ t,t<9->(E t).v=(s'.gh t).v)->LowE s'.next E->s'.next<nx->(∀ t n,M t n=if t=8/\n=s.next + 1 then some row else s'.mem t n)->(∀ q∈row,lowV s'.next q.v)->(∃ m,row.map (·.v)=typL (typZ l z) m/\q5R (typZ l z).mems m s')->q7m n0 s0 dn l i (s.next + 1) ⟨E,M,nx,s'.obj,restE 171 s'.gh⟩:=fun E M row nx hE hEl hnx hM hrl hr=>by
   refine ⟨⟨?_,?_,?_,?_,?_,?_,?_,?_,⟨?_,?_,?_,?_,?_⟩,?_,?_⟩,?_,?_,?_⟩
   ·exact (hE 1 (by omega)).trans g1
   ·simp [hM,cm2 1 n0 (by omega),m1]
   ·exact (hE 2 (by omega)).trans g2
   ·simpa [hM,cm2 2 n0 (by omega)] using m2
   ·exact (hE 4 (by omega)).trans g4
   ·exact (hE 5 (by omega)).trans g5
   ·exact (hE 6 (by omega)).trans (by rw [g6,hz])
   ·refine m5.keep (by simp [hM,cm2 5 (n0 + 3) (by omega)]) (fun N hN=>by simp [hM,cm2 168 N (by omega)]) (fun N hN=>by simp [hM,cm2 88 N (by omega)]) (by dsimp only; omega)
   ·intro t n hn
    show M t n=_
    rw [hM,if_neg (by omega),cm2 t n (by omega)]
    simp [show ¬ n=s.next from by omega,show ¬ n=s.next + 1 from by omega,cm t n hn]
   ·show restE 171 s'.gh=s0.gh
    rw [cg2,rest_wait]
    exact cg
   ·exact co2.trans co
   ·dsimp only; omega
   ·intro t n r' hr' q hq
    have hr':M t n=some r':=hr'
    rw [hM] at hr'
    split at hr'
    ·injection hr' with hr'; subst hr'
     exact q46 (by dsimp only; omega) (hrl q hq)
    ·exact q46 (by dsimp only; omega) (cl2 t n r' hr' q hq)
   ·exact hEl.mono (by dsimp only; omega)
   ·dsimp only; omega
   ·exact (hE 8 (by omega)).trans g8
   ·dsimp only; omega
   ·obtain ⟨m,hr1,hr2⟩:=hr
    rw [<- hz]
    refine ⟨m,row,by show M 8 _=_; rw [hM,if_pos ⟨rfl,rfl⟩],hr1,hr2.keep (fun N hN=>?_) (by dsimp only; omega)⟩
    show M 88 N=_
    rw [hM,if_neg (by omega)]
  rcases hms with ⟨h0,e⟩ | ⟨N,h0,_,e,_⟩
  ·simp [-Option.bind_some,-Int.toNat_lt,-List.map_map,List.range_succ,g8,m8,e]
   refine hk _ _ (fin _ _ _ _ (fun t ht=>?_) ?_ (by omega) (fun t n=>by simp [q0t]; split <;> rfl) (fun q hq=>?_) ?_)
   ·have q:∀ c,9<=c->¬ t=c:=fun c hc=>by omega
    simp [q,q6Q,show t<171 from by omega]
   ·repeat (first | exact hgl.back | refine LowE.put ?_ (fun _ _ _=>rfl) | refine LowE.put ?_ (q1i (by omega)) | refine LowE.put ?_ hyl | refine LowE.put ?_ (by rw [<- e]; exact hyl))
   ·simp only [List.mem_cons,List.not_mem_nil,or_false] at hq
    rcases hq with rfl | rfl | rfl | rfl | rfl | rfl | rfl | rfl | rfl | rfl <;> first | exact q6u rfl | (rw [<- e]; exact hyl)
   ·refine ⟨.sl true [],?_,.inl ⟨?_,rfl⟩⟩
    ·rw [hty,if_pos (by simp [h0])]; simp [typL,Typ.of,q6e]
    ·rw [hty,if_pos (by simp [h0])]; rfl
  ·have hl0:¬ ((q2E l z false x.parts).length:Int)=0:=by
    have:=List.length_pos_iff.2 h0
    omega
   simp [-Option.bind_some,-Int.toNat_lt,-List.map_map,List.range_succ,g8,m8,e,hl0,h0]
   refine hk _ _ (fin _ _ _ _ (fun t ht=>?_) ?_ (by omega) (fun t n=>by simp [q0t]; rfl) (fun q hq=>?_) ?_)
   ·have q:∀ c,9<=c->¬ t=c:=fun c hc=>by omega
    simp [q,q6Q,show t<171 from by omega]
   ·repeat (first | exact hgl.back | refine LowE.put ?_ (fun _ _ _=>rfl) | refine LowE.put ?_ (q1i (by omega)) | refine LowE.put ?_ hyl | refine LowE.put ?_ (by rw [<- e]; exact hyl))
   ·simp only [List.mem_cons,List.not_mem_nil,or_false] at hq
    rcases hq with rfl | rfl | rfl | rfl | rfl | rfl | rfl | rfl | rfl | rfl <;> first | exact q6u rfl | (rw [<- e]; exact hyl)
   ·exact ⟨y.v,by rw [hty,if_neg (by simpa using h0),e]; simp [typL,Typ.of,q6e],by rw [hty,if_neg (by simpa using h0)]; exact hli.mems⟩
end
section
set_option maxHeartbeats 4000000
structure OfJ (n0:Nat) (s0:MSt) (dn:Bool) (l:List Nde) (i j:Nat) (s:MSt):Prop where
 e1:(s.env 1).v=.ptr 1 n0 0
 m1:s.mem 1 n0=some [⟨.sl dn (l.map ndeC),.no⟩]
 e2:(s.env 2).v=.ptr 2 n0 0
 m2:∃ a,s.mem 2 n0=some [⟨.sl true [],a⟩]/\q72 ⟨.sl true [],a⟩
 e4:(s.env 4).v=.int .i64 l.length
 e5:(s.env 5).v=.ptr 5 (n0 + 3) 0
 e6:(s.env 6).v=.int .i64 i
 m5:M5I n0 l j s
 calm:Calm n0 s0 s
 lowE:LowE s.next s.env
 lt:n0 + 3<s.next
theorem q3j {sz:Nat} {L:List (List AV)} (h:∀ c∈L,c.length=sz):q64 (q0f L) sz 0 L.length=some L:=by
 have hlen:∀ {L:List (List AV)},(∀ c∈L,c.length=sz)->L.flatten.length=L.length * sz:=by
  intro L h
  induction L with
  | nil=>simp
  | cons c r ih =>
   simp only [List.flatten_cons,List.length_append,List.length_cons]
   rw [ih fun c hc=>h c (List.mem_cons_of_mem _ hc),h c List.mem_cons_self,Nat.succ_mul]
   omega
 have hv:∀ l:List AV,(l.map fun v=>(⟨v,An.no⟩:Slot)).map (·.v)=l:=fun l=>by simp [Function.comp_def]
 unfold q64
 rw [if_pos (by rw [q0f,List.length_map,hlen h]; omega)]
 congr 1
 refine List.ext_getElem (by simp) fun i h1 h2=>?_
 simp only [List.getElem_map,List.getElem_range,Nat.zero_add]
 simp only [q0f]
 rw [<- List.map_drop,<- List.map_take,hv]
 induction L generalizing i with
 | nil=>simp at h2
 | cons c r ih =>
  have hc:=h c List.mem_cons_self
  cases i with
  | zero=>simp [<- hc]
  | succ i =>
   simp only [List.flatten_cons,List.getElem_cons_succ]
   rw [Nat.succ_mul,Nat.add_comm,<- hc,<- List.drop_drop]
   rw [List.drop_left,hc]
   exact ih (fun c hc=>h c (List.mem_cons_of_mem _ hc)) i (by simpa using h2) (by simpa using h2)
theorem q5R.stay2 {ms:List Mem} {c:AV} {s s':MSt} (h:q5R ms c s) (hm:∀ n L,q2e L=true->s.mem 88 n=some (q0f L)->s'.mem 88 n=some (q0f L)) (hn:s.next<=s'.next):q5R ms c s':=by
 rcases h with h | ⟨N,h1,h2,h3,h4⟩
 ·exact .inl h
 ·exact .inr ⟨N,h1,Nat.lt_of_lt_of_le h2 hn,h3,hm N _ (mems_free _) h4⟩
theorem q61.stay2 {S:List Typ} {L:List (List AV)} {s s':MSt} (h:q61 S L s) (hm:∀ n L,q2e L=true->s.mem 88 n=some (q0f L)->s'.mem 88 n=some (q0f L)) (hn:s.next<=s'.next):q61 S L s' :=
 ⟨h.1,fun i t c ht hc=>by obtain ⟨m,h1,h2⟩:=h.2 i t c ht hc; exact ⟨m,h1,h2.stay2 hm hn⟩⟩
theorem tail_ev {r:RV} {n0:Nat} {s0:MSt} {dn:Bool} {l:List Nde} (hl:oks l) (hM0:LowM n0 s0.mem) (hG:LowE n0 s0.gh) {i:Nat} (hi:i<l.length) {n8:Nat} {s:MSt} {k:Ex->MSt->Option RV} (h:q7m n0 s0 dn l i n8 s) (hk:∀ s',OfJ n0 s0 dn l i (i + 1) s'->k .nrm s'=some r):q1J.run (evC allT q02) (evK allT q02) s k=some r:=by
 obtain ⟨⟨e1,m1,e2,m2,e4,e5,e6,m5,⟨cm,cg,co,cn,cl⟩,lowE,lt⟩,e8,lt8,m,row,m8,hrow,hms⟩:=h
 have hN5:=hl.2.1
 generalize hT:typZ l (i:Int)=T at *
 have hmm:=hms
 have hlen:row.length=10:=by have:=congrArg List.length hrow; simpa [typL] using this
 have hld:q0C true 10 0 row=some ⟨.agg (typL T m),.no⟩:=by
  unfold q0C
  simp [hlen,<- hrow]
  rw [List.take_of_length_le (by rw [List.length_map]; omega)]
 have hCl:(typL T m).length=10:=rfl
 have hmf:∀ t n,t≠88->m.noName t n=true:=fun t n ht=>by
  rcases hms with ⟨_,rfl⟩ | ⟨N,_,_,rfl,_⟩
  ·rfl
  ·simp [AV.noName]
   omega
 have hmw:m.leaf=true:=by
  rcases hms with ⟨_,rfl⟩ | ⟨N,_,_,rfl,_⟩ <;> rfl
 have hnn:∀ t n,t≠88->(typL T m).all (AV.noName t n)=true:=fun t n ht=>by
  refine List.all_eq_true.2 fun c hc=>?_
  simp only [typL,List.mem_cons,List.not_mem_nil,or_false] at hc
  rcases hc with rfl | rfl | rfl | rfl | rfl | rfl | rfl | rfl | rfl | rfl <;> first | exact hmf t n ht | rfl
 have hlowC:∀ c∈typL T m,low0 s.next c:=fun c hc=>by
  simp only [typL,List.mem_cons,List.not_mem_nil,or_false] at hc
  rcases hc with rfl | rfl | rfl | rfl | rfl | rfl | rfl | rfl | rfl | rfl <;> first | exact hmm.low | exact q5s rfl
 have hleafC:∀ c∈typL T m,c.leaf=true:=fun c hc=>by
  simp only [typL,List.mem_cons,List.not_mem_nil,or_false] at hc
  rcases hc with rfl | rfl | rfl | rfl | rfl | rfl | rfl | rfl | rfl | rfl <;> first | exact hmw | rfl
 have hroom:q1E 120 (i + 1)=true:=by rw [q0s]; omega
 have hw1:(AV.agg (typL T m)).whole=true:=rfl
 rcases m5 with ⟨hi0,a,h5,hp5⟩ | ⟨N,L,hi0,h5,hN0,hN,h168,hLl,hty⟩
 ·subst hi0
  have helC:q18 10 [typL T m]=true:=rfl
  have hraw:q64 (q0f [typL T m]) 10 0 1=some [typL T m]:=q3j (L:=[typL T m]) (by simp [hCl])
  generalize hC:typL T m=C at *
  have hC2:C.length=10:=hCl
  simp [q1J,-Option.bind_some,-Int.toNat_lt,-List.map_map,List.range_succ,-q0C,-q0d,q0l,q0m,q0c,q0b,e5,e8,h5,m8,hld,AV.raws,hraw,hroom,helC,hC2]
  have hlowR:∀ x∈q0f [C],lowV s.next x.v:=low_row (fun c hc=>by simp only [List.mem_singleton] at hc; subst hc; exact hlowC) (fun c hc=>by simp only [List.mem_singleton] at hc; subst hc; exact hleafC)
  refine hk _ ⟨?_,?_,?_,?_,?_,?_,?_,.inr ⟨s.next,[C],by omega,by simp,by omega,by dsimp only; omega,by simp,rfl,?_⟩,⟨?_,?_,?_,?_,?_⟩,?_,?_⟩
  ·simp [e1]
  ·simp [m1]
  ·simp [e2]
  ·simpa using m2
  ·simp [e4]
  ·simp [e5]
  ·simp [e6]
  ·refine ⟨rfl,fun j t c ht hc=>?_⟩
   have hj:j=0:=by
    rcases Nat.eq_zero_or_pos j with h0 | h0
    ·exact h0
    ·rw [List.getElem?_eq_none (by simp; omega)] at hc; cases hc
   subst hj
   simp at ht hc
   subst ht
   subst hc
   rw [show typZ l (0:Int)=T from hT]
   exact ⟨m,hC.symm,hms.keep (fun N hN=>by simp) (by dsimp only; omega)⟩
  ·repeat (first | exact cm | refine q27.set ?_ (by omega))
  ·exact cg
  ·exact co
  ·dsimp only; omega
  ·exact ((((cl.set hlowR).set hlowR).mono (Nat.le_succ _)).set fun x hx=>by simp at hx; subst hx; exact q7s (by omega))
  ·dsimp only
   have hag:lowV s.next (.agg C):=q7o hlowC
   repeat (first | exact lowE.mono (by omega) | refine LowE.put ?_ (fun _ _ _=>rfl) | refine LowE.put ?_ (q1i (by omega)) | refine LowE.put ?_ (q7s (by omega)) | refine LowE.put ?_ (q46 (by omega) hag))
  ·dsimp only; omega
 ·have hels:∀ c∈L,c.length=10:=fun c hc=>by simpa using List.all_eq_true.1 hty.els c hc
  have helC:q18 10 [typL T m]=true:=rfl
  have hraw:q64 (q0f [typL T m]) 10 0 1=some [typL T m]:=q3j (L:=[typL T m]) (by simp [hCl])
  have hraw2:q64 (q0f L) 10 0 i=some L:=by rw [<- hLl]; exact q3j hels
  have hnn2:(L++[typL T m]).flatten.all (AV.noName 168 N)=true:=by
   rw [List.flatten_append,List.all_append,Bool.and_eq_true]
   refine ⟨List.all_eq_true.2 fun v hv=>?_,by simpa using hnn 168 N (by omega)⟩
   obtain ⟨c,hc,hv⟩:=List.mem_flatten.1 hv
   obtain ⟨j,hj,rfl⟩:=List.getElem_of_mem hc
   have hjS:j<((List.range i).map fun (j:Nat)=>typZ l (j:Int)).length:=by rw [hty.1]; exact hj
   obtain ⟨m',h1,h2⟩:=hty.2 j _ _ (List.getElem?_eq_getElem hjS) (List.getElem?_eq_getElem hj)
   rw [h1] at hv
   simp only [typL,List.mem_cons,List.not_mem_nil,or_false] at hv
   rcases hv with rfl | rfl | rfl | rfl | rfl | rfl | rfl | rfl | rfl | rfl <;> first | rfl | skip
   rcases h2 with ⟨_,rfl⟩ | ⟨N',_,_,rfl,_⟩ <;> rfl
  generalize hC:typL T m=C at *
  have hC2:C.length=10:=hCl
  simp [q1J,-Option.bind_some,-Int.toNat_lt,-List.map_map,List.range_succ,-q0C,-q0d,q0l,q0m,q0c,q0b,e5,e8,h5,m8,hld,AV.raws,hraw,hraw2,h168,hroom,helC,hC2,hnn2,-List.all_eq_true,-List.flatten_append,-List.all_flatten,-List.all_append]
  have hgh:killE 168 N s.gh=s.gh:=by rw [cg]; exact hG.same hN0
  have hst:∀ (s':MSt),s'.mem=setM (setM (killM 168 N (setM s.mem 167 s.next (q0f [C]))) 168 s.next (q0f (L++[C]))) 5 (n0 + 3) [⟨.ref 168 s.next 10 0 (i + 1) (i + 1),.no⟩]->∀ n L,q2e L=true->s.mem 88 n=some (q0f L)->s'.mem 88 n=some (q0f L):=fun s' hs' n L' hL' h'=>by
   rw [hs']
   simp [h',rowOf_kill hL']
  have hlowR:∀ x∈q0f [C],lowV s.next x.v:=low_row (fun c hc=>by simp only [List.mem_singleton] at hc; subst hc; exact hlowC) (fun c hc=>by simp only [List.mem_singleton] at hc; subst hc; exact hleafC)
  have hlowR2:∀ x∈q0f (L++[C]),lowV s.next x.v:=fun x hx=>by
   rw [q0f,List.flatten_append,List.map_append] at hx
   rcases List.mem_append.1 hx with hx | hx
   ·exact cl 168 N _ h168 x hx
   ·exact hlowR x hx
  refine hk _ ⟨?_,?_,?_,?_,?_,?_,?_,.inr ⟨s.next,L++[C],by omega,by simp,by omega,by dsimp only; omega,by simp,by simp [hLl],?_⟩,⟨?_,?_,?_,?_,?_⟩,?_,?_⟩
  ·simp [q0r,e1,AV.kill,AV.kill0]
  ·simp [q0x,m1,AV.kill,AV.kill0]
  ·simp [q0r,e2,AV.kill,AV.kill0]
  ·obtain ⟨a,m2,p2⟩:=m2
   exact ⟨a,by simp [q0x,m2,AV.kill,AV.kill0],p2⟩
  ·simp [q0r,e4,AV.kill,AV.kill0]
  ·simp [q0r,e5,AV.kill,AV.kill0]
  ·simp [q0r,e6,AV.kill,AV.kill0]
  ·rw [List.range_succ,List.map_append,List.map_cons,List.map_nil,hT]
   subst hC
   exact (hty.stay2 (hst _ rfl) (by dsimp only; omega)).snoc (hms.stay2 (hst _ rfl) (by dsimp only; omega))
  ·exact (((cm.set (by omega)).kill hM0 hN0).set (by omega)).set (by omega)
  ·show killE 168 N s.gh=s0.gh
   rw [hgh]
   exact cg
  ·exact co
  ·dsimp only; omega
  ·exact ((((cl.set hlowR).kill.set hlowR2).mono (Nat.le_succ _)).set fun x hx=>by simp at hx; subst hx; exact q7s (by omega))
  ·dsimp only
   have hag:lowV s.next (.agg C):=q7o hlowC
   have hN':N<s.next + 1:=by omega
   repeat (first | exact lowE.mono (by omega) | refine LowE.kill ?_ | refine LowE.put ?_ (fun _ _ _=>rfl) | refine LowE.put ?_ (q1i (by omega)) | refine LowE.put ?_ (q7s (by omega)) | refine LowE.put ?_ (q46 (by omega) hag))
  ·dsimp only; omega
end
section
set_option maxHeartbeats 4000000
theorem head_ev {r:RV} {n0:Nat} {s0:MSt} {dn:Bool} {l:List Nde} (hl:oks l) (hM:LowM n0 s0.mem) (hP:PureM n0 s0.mem) (hG:LowE n0 s0.gh) (hG':q5V s0.gh) {i:Nat} (hi:i<l.length) {s:MSt} {k:Ex->MSt->Option RV} (h:OfI n0 s0 dn l i s) (hk:∀ s',OfJ n0 s0 dn l i (i + 1) s'->k .nrm s'=some r):q0U.run (evC allT q02) (evK allT q02) s k=some r:=by
 have ht:∀ n8 s',q7m n0 s0 dn l i n8 s'->q1J.run (evC allT q02) (evK allT q02) s' k=some r:=fun n8 s' h'=>tail_ev hl hM hG hi h' hk
 have hx:=q3e hl hi
 have hr:1<=(ndAt l (i:Int)).kind/\(ndAt l (i:Int)).kind<=9:=by
  have:=hx.1.1
  simp only [Nde.kind]
  omega
 by_cases h1:(ndAt l (i:Int)).kind=1
 ·exact kind1_ev hl hi h h1 ht
 by_cases h2:(ndAt l (i:Int)).kind=2
 ·exact kind2_ev hl hi h h2 ht
 by_cases h3:(ndAt l (i:Int)).kind=3
 ·exact kind3_ev hl hi h h3 ht
 by_cases h4:(ndAt l (i:Int)).kind=4
 ·exact kind4_ev hl hG' hP hi h h4 ht
 by_cases h5:(ndAt l (i:Int)).kind=5
 ·exact kind5_ev hl hG hi h h5 ht
 by_cases h6:(ndAt l (i:Int)).kind=6
 ·exact kind6_ev hl hG hi h h6 ht
 by_cases h7:(ndAt l (i:Int)).kind=7
 ·exact kind7_ev hl hi h h7 ht
 by_cases h8:(ndAt l (i:Int)).kind=8
 ·by_cases hc:keyZ l (ndAt l (i:Int)).b<0
  ·exact kind8n_ev hl hi h h8 hc ht
  ·exact kind8p_ev hl hi h h8 hc ht
 ·exact kind9_ev hl hi h (by omega) ht
theorem OfJ.toI {n0:Nat} {s0:MSt} {dn:Bool} {l:List Nde} {i j:Nat} {s:MSt} (h:OfJ n0 s0 dn l i j s) {E:Nat->Slot} {nx:Nat} (hE:∀ t,t<9->¬ t=6->(E t).v=(s.env t).v) (h6:(E 6).v=.int .i64 j) (hL:LowE nx E) (hn:s.next<=nx):OfI n0 s0 dn l j ⟨E,s.mem,nx,s.obj,s.gh⟩:=by
 obtain ⟨e1,m1,e2,m2,e4,e5,e6,m5,⟨cm,cg,co,cn,cl⟩,lowE,lt⟩:=h
 exact ⟨(hE 1 (by omega) (by omega)).trans e1,m1,(hE 2 (by omega) (by omega)).trans e2,m2,(hE 4 (by omega) (by omega)).trans e4,(hE 5 (by omega) (by omega)).trans e5,h6,m5.keep rfl (fun _ _=>rfl) (fun _ _=>rfl) hn,⟨cm,cg,co,by dsimp only; omega,cl.mono hn⟩,hL,by dsimp only; omega⟩
theorem OfI.toJ {n0:Nat} {s0:MSt} {dn:Bool} {l:List Nde} {i:Nat} {s:MSt} (h:OfI n0 s0 dn l i s):OfJ n0 s0 dn l i i s:=⟨h.e1,h.m1,h.e2,h.m2,h.e4,h.e5,h.e6,h.m5,h.calm,h.lowE,h.lt⟩
def q2R (l:List Nde):List Typ:=(List.range l.length).map fun (j:Nat)=>typZ l (j:Int)
structure OfEnd (s0:MSt) (l:List Nde) (s:MSt):Prop where
 calm:Calm s0.next s0 s
 e2:(s.env 2).v=.ptr 2 s0.next 0
 e3:(s.env 3).v=.bool true
 lt:s0.next<s.next
 typs:∃ N L,s.mem 2 s0.next=some [⟨.ref 168 N 10 0 l.length l.length,.no⟩]/\s0.next<=N/\N<s.next/\s.mem 168 N=some (q0f L)/\L.length=l.length/\q61 (q2R l) L s
theorem of_run {r:RV} {dn:Bool} {l:List Nde} (hl:oks l) (s0:MSt) (h0:(s0.env 0).v=.agg (dftC dn l)) (hM:LowM s0.next s0.mem) (hP:PureM s0.next s0.mem) (hE:LowE s0.next s0.env) (hG:LowE s0.next s0.gh) (hG':q5V s0.gh) (k:Ex->MSt->Option RV) (hk:∀ s',OfEnd s0 l s'->k .ret s'=some r):q2I.code.run (evC allT q02) (evK allT q02) s0 k=some r:=by
 have hN1:=hl.1
 have hN5:=hl.2.1
 have c1:¬ (l.length:Int)<1:=by omega
 have c2:¬ 5<(l.length:Int):=by omega
 simp only [dftC] at h0
 simp [q2I,-Option.bind_some,-Int.toNat_lt,-List.map_map,List.range_succ,h0,c1,c2]
 refine q0h l.length (fun i s=>OfI s0.next s0 dn l i s) (fun e s=>e=.exit 0/\OfI s0.next s0 dn l l.length s) (fun i hi s k' h ih hk'=>?_) _ _ ?_ (fun e s h=>?_)
 ·refine q04 ?_
  rw [of_L2]
  by_cases hlt:i<l.length
  ·have hwi:=q0W (i:=i) (by omega)
   simp [-Option.bind_some,-Int.toNat_lt,-List.map_map,List.range_succ,h.e4,h.e6,hlt]
   refine head_ev hl hM hP hG hG' hlt (h.toJ.toI (fun t ht h6=>?_) ?_ ?_ ?_) (fun s' hj=>?_)
   ·have q:∀ c,9<=c->¬ t=c:=fun c hc=>by omega
    simp [q]
   ·simp [h.e6]
   ·try dsimp only
    repeat (first | exact h.lowE.mono (by omega) | refine LowE.put ?_ (fun _ _ _=>rfl))
   ·(try dsimp only); omega
   ·simp [-Option.bind_some,-Int.toNat_lt,-List.map_map,List.range_succ,hj.e6,hwi]
    refine ih hlt _ (hj.toI (fun t ht h6=>?_) ?_ ?_ ?_)
    ·have q:∀ c,9<=c->¬ t=c:=fun c hc=>by omega
     simp [q,h6]
    ·simp
    ·try dsimp only
     repeat (first | exact hj.lowE.mono (by omega) | refine LowE.put ?_ (fun _ _ _=>rfl))
    ·(try dsimp only); omega
  ·have hie:i=l.length:=by omega
   subst hie
   simp [-Option.bind_some,-Int.toNat_lt,-List.map_map,List.range_succ,h.e4,h.e6]
   refine hk' _ _ ⟨rfl,h.toJ.toI (fun t ht h6=>?_) ?_ ?_ ?_⟩
   ·have q:∀ c,9<=c->¬ t=c:=fun c hc=>by omega
    simp [q]
   ·simp [h.e6]
   ·try dsimp only
    repeat (first | exact h.lowE.mono (by omega) | refine LowE.put ?_ (fun _ _ _=>rfl))
   ·(try dsimp only); omega
 ·refine ⟨?_,?_,?_,⟨.ex,?_,pureS_ex _⟩,?_,?_,?_,.inl ⟨rfl,.ex,?_,pureS_ex _⟩,⟨?_,?_,?_,?_,?_⟩,?_,?_⟩
  all_goals first | (simp; done) | skip
  ·dsimp only
   repeat (first | exact q27.refl | refine q27.set ?_ (by omega))
  ·dsimp only; omega
  ·exact (((((hM.mono (by dsimp only; omega)).set (q05 (by simp [AV.free,AV.free0]))).set (q05 (by simp [AV.free,AV.free0]))).set (q05 (by simp [AV.free,AV.free0]))))
  ·dsimp only
   repeat (first | exact hE.mono (by omega) | refine LowE.put ?_ (fun _ _ _=>rfl) | refine LowE.put ?_ (q1i (by omega)))
 ·obtain ⟨rfl,h⟩:=h
  obtain ⟨e1,m1,e2,⟨a2,m2,p2⟩,e4,e5,e6,m5,⟨cm,cg,co,cn,cl⟩,lowE,lt⟩:=h
  rcases m5 with ⟨hi0,_⟩ | ⟨N,L,hi0,h5,hN0,hN,h168,hLl,hty⟩
  ·omega
  simp [-Option.bind_some,-Int.toNat_lt,-List.map_map,List.range_succ,e5,h5,e2,m2]
  refine hk _ ⟨⟨?_,?_,?_,?_,?_⟩,?_,?_,?_,N,L,?_,hN0,?_,?_,hLl,?_⟩
  ·exact cm.set (Nat.le_refl _)
  ·exact cg
  ·exact co
  ·dsimp only; omega
  ·exact (cl.mono (Nat.le_succ _)).set fun x hx=>by simp at hx; subst hx; exact q7s (by omega)
  ·simp [e2]
  ·simp
  ·dsimp only; omega
  ·simp
  ·dsimp only; omega
  ·simp [h168]
  ·exact hty.keep (fun N _=>by simp) (by dsimp only; omega)
end
section
set_option maxHeartbeats 4000000
theorem of_bad {r:RV} {dn:Bool} {l:List Nde} (hl:¬ (1<=l.length/\l.length<=5)) (s0:MSt) (h0:(s0.env 0).v=.agg (dftC dn l)) (hM:LowM s0.next s0.mem) (k:Ex->MSt->Option RV) (hk:∀ s',Calm s0.next s0 s'->(s'.env 2).v=.ptr 2 s0.next 0->(s'.env 3).v=.bool false->s'.mem 2 s0.next=some [⟨.sl true [],.no⟩]->k .ret s'=some r):q2I.code.run (evC allT q02) (evK allT q02) s0 k=some r:=by
 simp only [dftC] at h0
 by_cases c1:(l.length:Int)<1
 ·have c1':l.length=0:=by omega
  have c1'':l=[]:=List.eq_nil_of_length_eq_zero c1'
  subst c1''
  simp [q2I,-Option.bind_some,-Int.toNat_lt,-List.map_map,List.range_succ,h0]
  refine hk _ ⟨?_,rfl,rfl,?_,?_⟩ ?_ ?_ ?_
  ·dsimp only
   repeat (first | exact q27.refl | refine q27.set ?_ (by omega))
  ·dsimp only; omega
  ·exact (((hM.mono (by dsimp only; omega)).set (q05 (by simp [AV.free,AV.free0]))).set (q05 (by simp [AV.free,AV.free0]))).set (q05 (by simp [AV.free,AV.free0]))
  ·simp
  ·simp
  ·simp
 ·have c2:5<(l.length:Int):=by omega
  simp [q2I,-Option.bind_some,-Int.toNat_lt,-List.map_map,List.range_succ,h0,c1,c2]
  refine hk _ ⟨?_,rfl,rfl,?_,?_⟩ ?_ ?_ ?_
  ·dsimp only
   repeat (first | exact q27.refl | refine q27.set ?_ (by omega))
  ·dsimp only; omega
  ·exact (((hM.mono (by dsimp only; omega)).set (q05 (by simp [AV.free,AV.free0]))).set (q05 (by simp [AV.free,AV.free0]))).set (q05 (by simp [AV.free,AV.free0]))
  ·simp
  ·simp
  ·simp
theorem ofH_ev {r:RV} {dn:Bool} {l:List Nde} {a:An} (hx:∀ x∈l,x.ok) (s0:MSt) (hM:LowM s0.next s0.mem) (hP:PureM s0.next s0.mem) (hG:LowE s0.next s0.gh) (hG':q5V s0.gh) (k:Slot->MSt->Option RV)
  (hbad:¬ oks l->∀ s',Calm s0.next s0 s'->k ⟨.tup [.agg [.sl true []],.bool false],.no⟩ s'=some r)
  (hgood:oks l->∀ N L s',Calm s0.next s0 s'->s0.next<=N->N<s'.next->s'.mem 168 N=some (q0f L)->L.length=l.length->q61 (q2R l) L s'->k ⟨.tup [.agg [.ref 168 N 10 0 l.length l.length],.bool true],.no⟩ s'=some r):evH allT q02 39 [⟨.agg (dftC dn l),a⟩] s0 k=some r:=by
 refine evH_intro q2I rfl rfl ?_
 have ht:q2I.res=[.cell 2 true 1,.tmp 3]:=rfl
 by_cases hl:1<=l.length/\l.length<=5
 ·refine of_run ⟨hl.1,hl.2,hx⟩ (s0.initH _) rfl hM hP (fun t=>?_) hG hG' _ (fun s' h=>?_)
  ·rcases t with _ | t
   ·exact q7o (fun c hc=>by simp only [dftC,List.mem_singleton] at hc; subst hc; exact q5s rfl)
   ·exact fun _ _ _=>rfl
  ·obtain ⟨⟨cm,cg,co,cn,cl⟩,e2,e3,lt,N,L,h2,hN,hlt,h168,hL,hT⟩:=h
   have e2':(s'.env 2).v=.ptr 2 s0.next 0:=e2
   have h2':s'.mem 2 s0.next=some [⟨.ref 168 N 10 0 l.length l.length,.no⟩]:=h2
   simp [finH,ht,resS,packS,e2',e3,h2',q0C,AV.tupOk]
   exact hgood ⟨hl.1,hl.2,hx⟩ N L s' ⟨cm,cg,co,cn,cl⟩ hN hlt h168 hL hT
 ·refine of_bad hl (s0.initH _) rfl hM _ (fun s' hc e2 e3 h2=>?_)
  have e2':(s'.env 2).v=.ptr 2 s0.next 0:=e2
  have h2':s'.mem 2 s0.next=some [⟨.sl true [],.no⟩]:=h2
  simp [finH,ht,resS,packS,e2',e3,h2',q0C,AV.tupOk]
  exact hbad (fun h=>hl ⟨h.1,h.2.1⟩) s' ⟨hc.mem,hc.gh,hc.obj,hc.next,hc.low⟩
end
theorem row_split {sz:Nat} {L:List (List AV)} (h:q18 sz L=true) {k:Nat} {c:List AV} (hk:L[k]?=some c) :
  q0f L=q0f (L.take k)++(c.map (⟨·,.no⟩)++q0f (L.drop (k + 1)))/\(q0f (L.take k)).length=k * sz/\k<L.length/\c.length=sz:=by
 obtain ⟨hlt,he⟩:=List.getElem?_eq_some_iff.1 hk
 have h1:q18 sz (L.take k)=true:=List.all_eq_true.2 fun x hx=>List.all_eq_true.1 h x (List.mem_of_mem_take hx)
 refine ⟨?_,?_,hlt,?_⟩
 ·have:L=L.take k++(c :: L.drop (k + 1)):=by rw [<- he,<- List.drop_eq_getElem_cons hlt,List.take_append_drop]
  have h2:=congrArg q0f this
  rw [q5d] at h2
  rw [h2]
  simp [q0f]
 ·rw [q5n h1,List.length_take,Nat.min_eq_left (by omega)]
 ·have:=List.all_eq_true.1 h c (List.mem_of_getElem? hk)
  simpa using this
theorem row_join {L:List (List AV)} {k:Nat} (hk:k<L.length) (c:List AV):q0f (L.take k)++(c.map (⟨·,.no⟩)++q0f (L.drop (k + 1)))=q0f (L.set k c):=by
 have:L.set k c=L.take k++(c :: L.drop (k + 1)):=by
  rw [List.set_eq_take_append_cons_drop,if_pos hk]
 rw [this,q5d]
 simp [q0f]
theorem row_get1 {sz:Nat} {L:List (List AV)} (h:q18 sz L=true) {k j:Nat} {c:List AV} (hk:L[k]?=some c) {v:AV} (hj:c[j]?=some v) (z:Nat):q0C false z (k * sz + j) (q0f L)=some ⟨v,.no⟩:=by
 obtain ⟨h1,h2,h3,h4⟩:=row_split h hk
 obtain ⟨hjl,_⟩:=List.getElem?_eq_some_iff.1 hj
 rw [h1,q0l,List.getElem?_append_right (by omega),h2,Nat.add_sub_cancel_left,List.getElem?_append_left (by simpa using hjl),List.getElem?_map,hj]
 rfl
theorem row_set1 {sz:Nat} {L:List (List AV)} (h:q18 sz L=true) {k j:Nat} {c:List AV} (hk:L[k]?=some c) (hj:j<c.length) {x:AV} (hx:x.leaf=true) (z:Nat):q0d false z (k * sz + j) (q0f L) x .no=some (q0f (L.set k (c.set j x))):=by
 obtain ⟨h1,h2,h3,h4⟩:=row_split h hk
 rw [<- row_join h3,h1]
 unfold q0d
 simp only [Bool.false_eq_true,if_false]
 rw [if_pos ⟨hx,by simp only [List.length_append,List.length_map,h2]; omega⟩]
 congr 1
 rw [List.set_append_right (h:=by omega),h2,Nat.add_sub_cancel_left,List.set_append_left (h:=by simpa using hj),List.map_set]
theorem row_setN {sz:Nat} {L:List (List AV)} (h:q18 sz L=true) {k j z:Nat} {c cs:List AV} (hk:L[k]?=some c) (hj:j + z<=c.length) (hz:cs.length=z) (a:An):q0d true z (k * sz + j) (q0f L) (.agg cs) a=some (q0f (L.set k (c.take j++cs++c.drop (j + z)))):=by
 obtain ⟨h1,h2,h3,h4⟩:=row_split h hk
 rw [<- row_join h3,h1]
 unfold q0d
 simp only [if_true]
 rw [if_pos ⟨hz,by simp only [List.length_append,List.length_map,h2]; omega⟩]
 congr 1
 rw [List.take_append,List.drop_append,h2]
 rw [List.take_of_length_le (l:=q0f (L.take k)) (by omega),List.drop_of_length_le (l:=q0f (L.take k)) (by omega)]
 rw [show k * sz + j - k * sz=j from by omega,show k * sz + j + z - k * sz=j + z from by omega]
 rw [List.take_append_of_le_length (by simp; omega),List.drop_append_of_le_length (by simp; omega)]
 simp
theorem rowEls_eq (row:List Slot) (sz off len:Nat):q4m row sz off len=if row.all (fun x=>x.v.free0)=true then q64 row sz off len else none:=by
 unfold q4m q64
 by_cases h1:off + len * sz<=row.length <;> by_cases h2:row.all (fun x=>x.v.free0)=true <;> simp only [h1,h2,true_and,false_and,and_true,and_false,if_true,if_false,Bool.false_eq_true]
theorem frz1_free {s:MSt} {v:AV} (h:v.free0=true):AV.frz1 s v=v:=by
 cases v <;> first | rfl | (simp [AV.free0] at h; done)
theorem frz_row {s:MSt} {t n sz c:Nat} {L:List (List AV)} (h:q18 sz L=true) (hm:s.mem t n=some (q0f L)) (hf:(L.map fun c=>c.map (AV.frz1 s)).flatten.all AV.free0=true):AV.frz0 s (.ref t n sz 0 L.length c)=.sl false (L.map fun c=>c.map (AV.frz1 s)):=by
 have hr:q64 (q0f L) sz 0 L.length=some L:=q3j fun c hc=>by simpa using List.all_eq_true.1 h c hc
 simp only [AV.frz0,hm,Option.bind_some,rowEls_eq]
 by_cases hall:(q0f L).all (fun x=>x.v.free0)=true
 ·rw [if_pos hall,hr]
  have:(L.map fun c=>c.map (AV.frz1 s))=L.map id:=List.map_congr_left fun c hc=>by
   have:c.map (AV.frz1 s)=c.map id:=List.map_congr_left fun v hv=>frz1_free (by
    have:=List.all_eq_true.1 hall ⟨v,.no⟩ (List.mem_map.2 ⟨v,List.mem_flatten.2 ⟨c,hc,hv⟩,rfl⟩)
    exact this)
   rwa [List.map_id] at this
  rw [this,List.map_id]
 ·rw [if_neg hall]
  simp only [rowDeep,hr,Option.bind_some]
  rw [if_pos hf]
def rwM (n:Nat) (a b:Mem):Prop:=b.id=a.id/\b.name=a.name/\b.crit=a.crit/\(b=a\/(0<=b.ty/\b.ty<n/\b.has=false/\b.dflt=Vl.zero))
def rwL (n:Nat) (xs bs:List Mem):Prop:=xs.length=bs.length/\∀ (i:Nat) a b,xs[i]?=some a->bs[i]?=some b->rwM n a b
theorem rwL_refl (n:Nat) (xs:List Mem):rwL n xs xs:=⟨rfl,fun i a b h h'=>by
 rw [h] at h'
 injection h' with h'
 subst h'
 exact ⟨rfl,rfl,rfl,.inl rfl⟩⟩
def Mem.rewired (m:Mem) (ty:Int):Mem:=⟨m.id,m.name,ty,m.crit,false,Vl.zero⟩
theorem rwL_set {n:Nat} {xs bs:List Mem} (h:rwL n xs bs) {k:Nat} {m:Mem} (hk:bs[k]?=some m) {ty:Int} (h0:0<=ty) (h1:ty<n):rwL n xs (bs.set k (m.rewired ty)):=by
 obtain ⟨hl,h⟩:=h
 refine ⟨by simpa using hl,fun i a b ha hb=>?_⟩
 rw [List.getElem?_set] at hb
 split at hb
 ·rename_i e
  subst e
  split at hb
  ·injection hb with hb
   subst hb
   obtain ⟨g1,g2,g3,_⟩:=h k a m ha hk
   exact ⟨g1,g2,g3,.inr ⟨h0,h1,rfl,rfl⟩⟩
  ·cases hb
 ·exact h i a b ha hb
def MemsR (n:Nat) (xs:List Mem) (c:AV) (s:MSt):Prop :=
 (xs=[]/\c=.sl true [])\/∃ N bs,xs≠[]/\rwL n xs bs/\c=.ref 88 N 13 0 xs.length xs.length/\s.mem 88 N=some (q0f (bs.map memC))
def q8U (n:Nat) (S:List Typ) (L:List (List AV)) (s:MSt):Prop:=S.length=L.length/\∀ (i:Nat) (t:Typ) (c:List AV),S[i]?=some t->L[i]?=some c->∃ m,c=typL t m/\MemsR n t.mems m s
theorem q61.toR {S:List Typ} {L:List (List AV)} {s:MSt} (h:q61 S L s) (n:Nat):q8U n S L s:=⟨h.1,fun i t c ht hc=>by
 obtain ⟨m,h1,h2⟩:=h.2 i t c ht hc
 refine ⟨m,h1,?_⟩
 rcases h2 with h2 | ⟨N,g1,_,g3,g4⟩
 ·exact .inl h2
 ·exact .inr ⟨N,_,g1,rwL_refl n _,g3,g4⟩⟩
theorem q8U.els {n:Nat} {S:List Typ} {L:List (List AV)} {s:MSt} (h:q8U n S L s):q18 10 L=true:=by
 refine List.all_eq_true.2 fun c hc=>?_
 obtain ⟨i,hi,rfl⟩:=List.getElem_of_mem hc
 have hlen:=h.1
 obtain ⟨m,h1,_⟩:=h.2 i S[i] L[i] (List.getElem?_eq_getElem (by omega)) (List.getElem?_eq_getElem hi)
 rw [h1]
 rfl
theorem q8U.keep {n:Nat} {S:List Typ} {L:List (List AV)} {s s':MSt} (h:q8U n S L s) (hm:∀ N,s'.mem 88 N=s.mem 88 N):q8U n S L s':=⟨h.1,fun i t c ht hc=>by
 obtain ⟨m,h1,h2⟩:=h.2 i t c ht hc
 refine ⟨m,h1,?_⟩
 rcases h2 with h2 | ⟨N,bs,g1,g2,g3,g4⟩
 ·exact .inl h2
 ·exact .inr ⟨N,bs,g1,g2,g3,(hm N).trans g4⟩⟩
theorem memC_inj {a b:List Mem} (h:q0f (a.map memC)=q0f (b.map memC)) (hl:a.length=b.length):a.map memC=b.map memC:=by
 have h1:=q3j (sz:=13) (L:=a.map memC) (by simp [memC])
 have h2:=q3j (sz:=13) (L:=b.map memC) (by simp [memC])
 rw [h] at h1
 simp only [List.length_map] at h1 h2
 rw [hl,h2] at h1
 injection h1 with h1
 exact h1.symm
theorem q8U.store {n:Nat} {S:List Typ} {L:List (List AV)} {s s':MSt} (h:q8U n S L s) {N k:Nat} {bs:List Mem} {m:Mem} (hN:s.mem 88 N=some (q0f (bs.map memC))) (hk:bs[k]?=some m) {ty:Int} (h0:0<=ty) (h1:ty<n) (hm:∀ N',s'.mem 88 N'=if N'=N then some (q0f ((bs.set k (m.rewired ty)).map memC)) else s.mem 88 N'):q8U n S L s':=⟨h.1,fun i t c ht hc=>by
 obtain ⟨m',g1,g2⟩:=h.2 i t c ht hc
 refine ⟨m',g1,?_⟩
 rcases g2 with g2 | ⟨N',bs',g2,g3,g4,g5⟩
 ·exact .inl g2
 ·by_cases e:N'=N
  ·subst e
   rw [hN] at g5
   injection g5 with g5
   have hlen:bs.length=bs'.length:=by
    have e1:=congrArg List.length g5
    rw [q5n (q6Y _),q5n (q6Y _)] at e1
    simp only [List.length_map] at e1
    omega
   have hmm:=memC_inj g5 hlen
   have hk':k<bs'.length:=by rw [<- hlen]; exact (List.getElem?_eq_some_iff.1 hk).1
   have hkm:memC bs'[k]=memC m:=by
    have:=congrArg (·[k]?) hmm
    simp only [List.getElem?_map,hk,List.getElem?_eq_getElem hk',Option.map_some,Option.some.injEq] at this
    exact this.symm
   refine .inr ⟨N',bs'.set k (bs'[k].rewired ty),g2,rwL_set g3 (List.getElem?_eq_getElem hk') h0 h1,g4,?_⟩
   rw [hm,if_pos rfl,List.map_set,List.map_set,hmm]
   have:memC (m.rewired ty)=memC (bs'[k].rewired ty):=by
    simp only [memC,List.cons.injEq,AV.int.injEq,AV.str.injEq,AV.bool.injEq,true_and] at hkm
    simp only [memC,Mem.rewired,hkm.1,hkm.2.1,hkm.2.2.2.1]
   rw [this]
  ·exact .inr ⟨N',bs',g2,g3,g4,by rw [hm,if_neg e]; exact g5⟩⟩
def rwT (n:Nat) (a b:Typ):Prop:=∃ bs,rwL n a.mems bs/\b={ a with mn:=bs.isEmpty,mems:=bs }
def rwS (n:Nat) (S T:List Typ):Prop:=S.length=T.length/\∀ (i:Nat) a b,S[i]?=some a->T[i]?=some b->rwT n a b
theorem frz_mems {n:Nat} {xs:List Mem} {c:AV} {s:MSt} (h:MemsR n xs c s):∃ bs,rwL n xs bs/\AV.frz1 s c=.sl bs.isEmpty (bs.map memC):=by
 rcases h with ⟨rfl,rfl⟩ | ⟨N,bs,h1,h2,rfl,h4⟩
 ·exact ⟨[],rwL_refl n [],rfl⟩
 ·refine ⟨bs,h2,?_⟩
  have hne:bs.isEmpty=false:=by
   cases bs with
   | nil=>exact absurd (List.eq_nil_of_length_eq_zero h2.1) h1
   | cons=>rfl
  have:=rowOf_els (sz:=13) (q6Y bs) (mems_free bs)
  simp only [List.length_map] at this
  simp only [AV.frz1,h4,Option.bind_some,h2.1,this,hne]
theorem frz_typs {n:Nat} {S:List Typ} {L:List (List AV)} {s:MSt} (h:q8U n S L s) {t N c:Nat} (hm:s.mem t N=some (q0f L)):∃ T,rwS n S T/\AV.frz0 s (.ref t N 10 0 L.length c)=.sl false (T.map typC):=by
 have hex:∀ i:Nat,∃ b:Typ,∀ (hi:i<S.length),rwT n S[i] b/\(L[i]'(by rw [<- h.1]; exact hi)).map (AV.frz1 s)=typC b:=fun i=>by
  by_cases hi:i<S.length
  ·have hiL:i<L.length:=by rw [<- h.1]; exact hi
   obtain ⟨m,h1,h2⟩:=h.2 i _ _ (List.getElem?_eq_getElem hi) (List.getElem?_eq_getElem hiL)
   obtain ⟨bs,g1,g2⟩:=frz_mems h2
   refine ⟨{ S[i] with mn:=bs.isEmpty,mems:=bs },fun _=>⟨⟨bs,g1,rfl⟩,?_⟩⟩
   rw [h1]
   simp only [typL,List.map_cons,List.map_nil,g2]
   rfl
  ·exact ⟨Typ.of 0 ⟨#[]⟩,fun h=>absurd h hi⟩
 obtain ⟨f,hf⟩:=Classical.axiomOfChoice hex
 have hL:(L.map fun c=>c.map (AV.frz1 s))=((List.range S.length).map f).map typC:=by
  refine List.ext_getElem (by simp [h.1]) fun i h1 h2=>?_
  have hi:i<S.length:=by simpa using h2
  simp only [List.getElem_map,List.getElem_range]
  exact (hf i hi).2
 refine ⟨(List.range S.length).map f,⟨by simp,fun i a b ha hb=>?_⟩,?_⟩
 ·obtain ⟨hi,he⟩:=List.getElem?_eq_some_iff.1 ha
  simp only [List.getElem?_map,List.getElem?_range hi,Option.map_some,Option.some.injEq] at hb
  rw [<- he,<- hb]
  exact (hf i hi).1
 ·rw [frz_row h.els hm (by rw [hL]; simp [typC,AV.free0]),hL]
section
def Det {α:Type} (f:(α->MSt->Option RV)->Option RV):Prop:=(∀ k,f k=none)\/∃ e s',∀ k,f k=k e s'
def Det1 (f:(MSt->Option RV)->Option RV):Prop:=(∀ k,f k=none)\/∃ s',∀ k,f k=k s'
theorem Det.bind {α β:Type} {f:(α->MSt->Option RV)->Option RV} (h:Det f) {g:(β->MSt->Option RV)->α->MSt->Option RV} (hg:∀ e s,Det fun k=>g k e s):Det fun k=>f (g k):=by
 rcases h with h | ⟨e,s,h⟩
 ·exact .inl fun k=>h _
 ·rcases hg e s with h2 | ⟨e',s',h2⟩
  ·exact .inl fun k=>(h _).trans (h2 k)
  ·exact .inr ⟨e',s',fun k=>(h _).trans (h2 k)⟩
theorem Det.here {α:Type} (e:α) (s:MSt):Det fun (k:α->MSt->Option RV)=>k e s:=.inr ⟨e,s,fun _=>rfl⟩
theorem Det.no {α:Type}:Det fun (_:α->MSt->Option RV)=>none:=.inl fun _=>rfl
section
variable {call:q1l} {lh:LH}
theorem det_hguard (s:MSt) (d:Option Nat) (g:Option (Nat × Bool)) {a:(MSt->Option RV)->Option RV} (ha:Det1 a):Det1 fun k=>q7S s d g (a k) k:=by
 unfold q7S
 cases g with
 | none=>exact ha
 | some p =>
  obtain ⟨t,want⟩:=p
  simp only
  split
  ·split
   ·exact ha
   ·exact .inr ⟨_,fun _=>rfl⟩
  ·exact .inr ⟨_,fun _=>rfl⟩
  ·exact .inl fun _=>rfl
theorem det_hstep (hh:∀ f xs s,Det (lh.h f xs s)) (d:Option Nat) (nt:Nat) (x:Opd) (xs:List Opd) (s:MSt):Det1 (q8h lh d nt x xs s):=by
 unfold q8h
 split
 ·rcases hh _ (q7P s xs++_) (s.enter nt) with h | ⟨y,s',h⟩
  ·exact .inl fun k=>h _
  ·exact .inr ⟨_,fun k=>h _⟩
 ·exact .inl fun _=>rfl
theorem det_stepK (hh:∀ f xs s,Det (lh.h f xs s)) (o:OpC) (s:MSt):Det1 (o.stepK call lh s):=by
 have hp:∀ (a:Option MSt),Det1 fun k=>a.bind k:=fun a=>by
  cases a with
  | none=>exact .inl fun _=>rfl
  | some s'=>exact .inr ⟨s',fun _=>rfl⟩
 unfold OpC.stepK
 split
 ·exact det_hguard s _ _ (det_hstep hh _ _ _ _ s)
 ·exact hp _
theorem det_ops (hh:∀ f xs s,Det (lh.h f xs s)):∀ (l:List OpC) (s:MSt),Det1 (q3I call lh l s)
 | [],s=>.inr ⟨s,fun _=>rfl⟩
 | o :: r,s=>by
  rcases det_stepK (call:=call) hh o s with h | ⟨s',h⟩
  ·exact .inl fun k=>h _
  ·rcases det_ops hh r s' with h2 | ⟨s2,h2⟩
   ·exact .inl fun k=>(h _).trans (h2 k)
   ·exact .inr ⟨s2,fun k=>(h _).trans (h2 k)⟩
theorem q7g (hl:∀ b s,Det (lh b s)) (hh:∀ f xs s,Det (lh.h f xs s)):∀ (c:C) (s:MSt),Det (c.run call lh s)
 | .skip,s=>.inr ⟨.nrm,s,fun _=>rfl⟩
 | .exit id,s=>.inr ⟨.exit id,s,fun _=>rfl⟩
 | .ret,s=>.inr ⟨.ret,s,fun _=>rfl⟩
 | .seq a b,s=>(q7g hl hh a s).bind (g:=fun k e s=>match e with | .nrm=>b.run call lh s k | e=>k e s) fun e s=>by
  cases e with
  | nrm=>exact q7g hl hh b s
  | exit id=>exact Det.here _ _
  | ret=>exact Det.here _ _
 | .reg ops,s=>by
  rcases det_ops (call:=call) hh ops s with h | ⟨s',h⟩
  ·exact .inl fun k=>h _
  ·exact .inr ⟨_,_,fun k=>h _⟩
 | .cond c t e,s=>by
  simp only [C.run]
  split
  ·split
   ·exact q7g hl hh t s
   ·exact q7g hl hh e s
  ·exact Det.no
 | .block id b,s=>(q7g hl hh b s).bind (g:=fun k e s=>match e with | .exit j=>if j=id then k .nrm s else k (.exit j) s | e=>k e s) fun e s=>by
  cases e with
  | nrm=>exact Det.here _ _
  | ret=>exact Det.here _ _
  | exit j =>
   simp only
   split
   ·exact Det.here _ _
   ·exact Det.here _ _
 | .loop b,s=>hl b s
end
section
variable {T:Nat->Option FnC} {ext:q1l}
theorem det_N:∀ n,(∀ b s,Det (lpN T ext n b s))/\∀ f xs s,Det (hpN T ext n f xs s)
 | 0=>⟨fun _ _=>.inl fun _=>rfl,fun _ _ _=>.inl fun _=>rfl⟩
 | n + 1=>by
  obtain ⟨h1,h2⟩:=det_N n
  have hr:=q7g (call:=q2S T ext n) (lh:=⟨lpN T ext n,hpN T ext n⟩) h1 h2
  refine ⟨fun b s=>?_,fun f xs s=>?_⟩
  ·have:lpN T ext (n + 1) b s=fun k=>b.run (q2S T ext n) ⟨lpN T ext n,hpN T ext n⟩ s (q7Q (lpN T ext n) b k):=by funext k; rw [lpN]
   rw [this]
   refine (hr b s).bind (g:=fun k=>q7Q (lpN T ext n) b k) fun e s=>?_
   cases e with
   | nrm=>exact h1 b s
   | exit id=>exact Det.here _ _
   | ret=>exact Det.here _ _
  ·have:hpN T ext (n + 1) f xs s=fun k=>match T f with | none=>none | some c=>if xs.length=c.np then c.code.run (q2S T ext n) ⟨lpN T ext n,hpN T ext n⟩ (s.initH xs) (finH c k) else none:=by funext k; rw [hpN]; rfl
   rw [this]
   cases hT:T f with
   | none=>exact Det.no
   | some c =>
    simp only
    split
    ·refine (hr c.code _).bind (g:=fun k=>finH c k) fun e s=>?_
     cases e with
     | exit id=>exact Det.no
     | nrm =>
      simp only [finH]
      cases (resS s c.res).bind packS with
      | none=>exact Det.no
      | some x=>exact Det.here _ _
     | ret =>
      simp only [finH]
      cases (resS s c.res).bind packS with
      | none=>exact Det.no
      | some x=>exact Det.here _ _
    ·exact Det.no
theorem run_reach {c:C} {s:MSt} {F:Ex->MSt->Prop} (h:∀ (k:Ex->MSt->Option RV) (r:RV),(∀ e s',F e s'->k e s'=some r)->c.run (evC T ext) (evK T ext) s k=some r):∃ e s',F e s'/\∀ (k:Ex->MSt->Option RV) (r:RV),k e s'=some r->c.run (evC T ext) (evK T ext) s k=some r:=by
 classical
 obtain ⟨m,hm⟩:=(ev_code c s (fun e s'=>if F e s' then some (default:RV) else none) default (fun _ e s'=>if F e s' then some (default:RV) else none) (fun e s' r' h'=>Late.now h') (h _ _ fun e s' hF=>if_pos hF)).some
 obtain ⟨d1,d2⟩:=det_N (T:=T) (ext:=ext) m
 rcases q7g (call:=q2S T ext m) (lh:=⟨lpN T ext m,hpN T ext m⟩) d1 d2 c s with hd | ⟨e,s',hd⟩
 ·rw [hd] at hm
  cases hm
 ·rw [hd] at hm
  have hF:F e s':=by
   by_cases hF:F e s'
   ·exact hF
   ·rw [if_neg hF] at hm
    cases hm
  refine ⟨e,s',hF,fun k r hk=>?_⟩
  have hN:c.run (q2S T ext m) ⟨lpN T ext m,hpN T ext m⟩ s k=some r:=(hd k).trans hk
  refine Exists.elim (q1K (lpA:=⟨lpN T ext m,hpN T ext m⟩) (callB:=fun _=>evC T ext) (lpB:=fun _=>evK T ext) (fun f args S r' h'=>Late.now (q7z.2 ⟨m,h'⟩)) (fun f xs s1 k1 r1 km hk1 h1=>?_) (fun b s1 k1 r1 km hk1 h1=>?_) c s k r (fun _=>k) (fun e s' r' h'=>Late.now h') hN).some fun _ h'=>h'
  ·rcases d2 f xs s1 with g | ⟨y,s2,g⟩
   ·have h1':hpN T ext m f xs s1 k1=some r1:=h1
    rw [g] at h1'
    cases h1'
   ·have h1':hpN T ext m f xs s1 k1=some r1:=h1
    rw [g] at h1'
    exact (hk1 y s2 r1 h1').imp fun m' hm'=>evH_some.2 ⟨m,(g _).trans hm'⟩
  ·rcases d1 b s1 with g | ⟨y,s2,g⟩
   ·have h1':lpN T ext m b s1 k1=some r1:=h1
    rw [g] at h1'
    cases h1'
   ·have h1':lpN T ext m b s1 k1=some r1:=h1
    rw [g] at h1'
    exact (hk1 y s2 r1 h1').imp fun m' hm'=>evL_some.2 ⟨m,(g _).trans hm'⟩
theorem evC_reach {f:Nat} {args:List AV} {S0:Option AV} (c:FnC) (hT:T f=some c) (hl:args.length=c.np) {F:Ex->MSt->Prop} {P:RV->Prop} (h:∀ (k:Ex->MSt->Option RV) (r:RV),(∀ e s',F e s'->k e s'=some r)->c.code.run (evC T ext) (evK T ext) (MSt.init args S0) k=some r) (hF:∀ e s',F e s'->∃ r,fin c S0 e s'=some r/\P r) (hm:q69 args=false:=by rfl):∃ r,P r/\evC T ext f args S0=some r:=by
 obtain ⟨e,s',h1,h2⟩:=run_reach h
 obtain ⟨r,h3,h4⟩:=hF e s' h1
 exact ⟨r,h4,evC_intro c hT hl (h2 _ _ h3) hm⟩
end
end
section
set_option maxHeartbeats 4000000
structure Wire where
 ty:Int
 mem:Int
 to:Int
def wireC (w:Wire):List AV:=[.int .u8 w.ty,.int .u8 w.mem,.int .u8 w.to]
def Wire.ok (w:Wire):Prop:=u8 w.ty/\u8 w.mem/\u8 w.to
structure RwI (dn wn:Bool) (l:List Nde) (ws:List Wire) (N:Nat) (L:List (List AV)) (i:Nat) (s:MSt):Prop where
 e1:(s.env 1).v=.ptr 1 1 0
 m1:s.mem 1 1=some [⟨.sl dn (l.map ndeC),.no⟩,⟨.sl wn (ws.map wireC),.no⟩]
 e2:(s.env 2).v=.ptr 2 1 0
 m2:s.mem 2 1=some [⟨.sl true [],.ex⟩]
 e4:∃ q,(s.env 4).v=.ptr 4 q 0/\s.mem 4 q=some [⟨.ref 168 N 10 0 l.length l.length,.no⟩]
 e6:(s.env 6).v=.int .i64 i
 m168:s.mem 168 N=some (q0f L)
 typs:q8U l.length (q2R l) L s
theorem els_set {sz:Nat} {L:List (List AV)} (h:q18 sz L=true) {k:Nat} {c:List AV} (hc:c.length=sz):q18 sz (L.set k c)=true:=by
 refine List.all_eq_true.2 fun x hx=>?_
 rcases List.mem_or_eq_of_mem_set hx with hx | rfl
 ·exact List.all_eq_true.1 h x hx
 ·simpa using hc
def memC1 (m:Mem) (ty:Int):List AV:=[.int .i64 m.id,.str m.name,.int .i64 ty,.bool m.crit,.bool m.has,.int .i64 m.dflt.kind,.bool m.dflt.b,.int .i64 m.dflt.i,.str m.dflt.s,.int .i64 m.dflt.id,.sl m.dflt.kn (m.dflt.keys.map valC),.sl m.dflt.xn (m.dflt.items.map valC),.sl m.dflt.rn (m.dflt.rest.map rawC)]
def memC2 (m:Mem) (ty:Int):List AV:=[.int .i64 m.id,.str m.name,.int .i64 ty,.bool m.crit,.bool false,.int .i64 m.dflt.kind,.bool m.dflt.b,.int .i64 m.dflt.i,.str m.dflt.s,.int .i64 m.dflt.id,.sl m.dflt.kn (m.dflt.keys.map valC),.sl m.dflt.xn (m.dflt.items.map valC),.sl m.dflt.rn (m.dflt.rest.map rawC)]
theorem rw_stores {bs:List Mem} {c:Nat} {m:Mem} (hc:bs[c]?=some m) (b:Int) :
  q0d false 1 (c * 13 + 2) (q0f (bs.map memC)) (.int .i64 b) .no=some (q0f ((bs.map memC).set c (memC1 m b))) ∧
  q0d false 1 (c * 13 + 4) (q0f ((bs.map memC).set c (memC1 m b))) (.bool false) .no=some (q0f ((bs.map memC).set c (memC2 m b))) ∧
  q0d true 8 (c * 13 + 5) (q0f ((bs.map memC).set c (memC2 m b))) (.agg [.int .i64 0,.bool false,.int .i64 0,.str ⟨#[]⟩,.int .i64 0,.sl true [],.sl true [],.sl true []]) .no=some (q0f ((bs.set c (m.rewired b)).map memC)):=by
 have hlt:c<(bs.map memC).length:=by simpa using (List.getElem?_eq_some_iff.1 hc).1
 have g0:(bs.map memC)[c]?=some (memC m):=by rw [List.getElem?_map,hc]; rfl
 have g1:∀ e,((bs.map memC).set c e)[c]?=some e:=fun e=>List.getElem?_set_self hlt
 refine ⟨?_,?_,?_⟩
 ·rw [row_set1 (q6Y bs) g0 (by simp [memC]) rfl]
  rfl
 ·rw [row_set1 (els_set (q6Y bs) rfl) (g1 _) (by simp [memC1]) rfl,List.set_set]
  rfl
 ·have:=row_setN (sz:=13) (els_set (q6Y bs) (k:=c) (c:=memC2 m b) rfl) (g1 (memC2 m b)) (j:=5) (z:=8) (cs:=[.int .i64 0,.bool false,.int .i64 0,.str ⟨#[]⟩,.int .i64 0,.sl true [],.sl true [],.sl true []]) (by simp [memC2]) rfl .no
  rw [this,List.set_set,List.map_set]
  rfl
theorem rw_round {r:RV} {dn wn:Bool} {l:List Nde} (hl:oks l) {ws:List Wire} (hw:∀ w∈ws,w.ok) (hw8:ws.length<=8) {N:Nat} {L:List (List AV)} (hL:L.length=l.length) {i:Nat} (hi:i<ws.length) (s:MSt) (k:Ex->MSt->Option RV) (h:RwI dn wn l ws N L i s) (hk:∀ s',RwI dn wn l ws N L (i + 1) s'->k .nrm s'=some r):q3E.run (evC allT q02) (evK allT q02) s k=some r:=by
 obtain ⟨e1,m1,e2,m2,⟨q,e4,m4⟩,e6,m168,typs⟩:=h
 have hN1:=hl.1
 have hN5:=hl.2.1
 have hlti:(i:Int)<ws.length:=by omega
 have hwi:=q0W (i:=i) (by omega)
 have g1:(ws.map wireC)[i]?=some (wireC ws[i]):=by simp [hi]
 have hwo:=hw _ (List.getElem_mem hi)
 generalize ws[i]=w at *
 obtain ⟨⟨w1,w1'⟩,⟨w2,w2'⟩,⟨w3,w3'⟩⟩:=hwo
 simp only [wireC] at g1
 have hwt:IntKind.i64.wrap w.ty=w.ty:=IntWalk.i64_in _ (by omega)
 have hwm:IntKind.i64.wrap w.mem=w.mem:=IntWalk.i64_in _ (by omega)
 have hwo:IntKind.i64.wrap w.to=w.to:=IntWalk.i64_in _ (by omega)
 have hn0:¬ (l.length:Int)=0:=by omega
 have hl0:¬ l=[]:=by intro e; rw [e] at hN1; simp at hN1
 have ht:w.ty.tmod l.length=w.ty % l.length:=Int.tmod_eq_emod_of_nonneg w1
 have ht2:w.to.tmod l.length=w.to % l.length:=Int.tmod_eq_emod_of_nonneg w3
 have hp1:0<=w.ty % l.length/\w.ty % l.length<l.length:=⟨Int.emod_nonneg _ hn0,Int.emod_lt_of_pos _ (by omega)⟩
 have hp3:0<=w.to % l.length/\w.to % l.length<l.length:=⟨Int.emod_nonneg _ hn0,Int.emod_lt_of_pos _ (by omega)⟩
 generalize w.ty % (l.length:Int)=a at *
 generalize w.to % (l.length:Int)=b at *
 have haL:a.toNat<L.length:=by omega
 have haS:a.toNat<(q2R l).length:=by rw [typs.1]; exact haL
 obtain ⟨m,hm1,hm2⟩:=typs.2 a.toNat _ _ (List.getElem?_eq_getElem haS) (List.getElem?_eq_getElem haL)
 have hga:L[a.toNat]?=some (typL (q2R l)[a.toNat] m):=by rw [List.getElem?_eq_getElem haL,hm1]
 have gl:=row_get1 typs.els hga (j:=6) (v:=m) rfl 1
 rw [q0l] at gl
 have hat:a.toNat<l.length:=by omega
 have ha2:a<l.length:=hp1.2
 have ha0:=hp1.1
 obtain ⟨z,hz⟩:∃ z:Int,z=i:=⟨_,rfl⟩
 have hz0:0<=z:=by omega
 rw [<- hz] at e6 hlti hwi
 rw [show i=z.toNat from by omega] at g1
 rcases hm2 with ⟨hme,rfl⟩ | ⟨N',bs,hne,hrw,rfl,h88⟩
 ·simp [q3E,-Option.bind_some,-Int.toNat_lt,-List.map_map,List.range_succ,-q0C,-q0d,q0l,q0m,q0c,q0b,e1,m1,e4,m4,e6,hz0,hlti,g1,hwt,ht,hn0,hl0,ha0,ha2,m168,gl,hwi,hat]
  refine hk _ ⟨?_,?_,?_,?_,⟨q,?_,?_⟩,?_,?_,typs.keep fun _=>rfl⟩
  ·simp [e1]
  ·exact m1
  ·simp [e2]
  ·exact m2
  ·simp [e4]
  ·exact m4
  ·simp
  ·exact m168
 ·have hk0:¬ ((q2R l)[a.toNat].mems.length:Int)=0:=by
   have:=List.length_pos_iff.2 hne
   omega
  have hk0':0<((q2R l)[a.toNat].mems.length:Int):=by omega
  have hlb:=hrw.1
  generalize (q2R l)[a.toNat].mems=ms at *
  have ht3:w.mem.tmod ms.length=w.mem % ms.length:=Int.tmod_eq_emod_of_nonneg w2
  have hp2:0<=w.mem % ms.length/\w.mem % ms.length<ms.length:=⟨Int.emod_nonneg _ hk0,Int.emod_lt_of_pos _ hk0'⟩
  generalize w.mem % (ms.length:Int)=c at *
  have hc0:=hp2.1
  have hcn:c.toNat<ms.length:=by omega
  have hcb:c.toNat<bs.length:=by omega
  have gb:bs[c.toNat]?=some bs[c.toNat]:=List.getElem?_eq_getElem hcb
  obtain ⟨st1,st2,st3⟩:=rw_stores gb b
  simp [q3E,-Option.bind_some,-Int.toNat_lt,-List.map_map,List.range_succ,-q0C,-q0d,q0l,q0m,q0c,q0b,e1,m1,e4,m4,e6,hz0,hlti,g1,hwt,ht,hn0,hl0,ha0,ha2,m168,gl,hwi,hat,hk0,hwm,ht3,hc0,hcn,hne,hwo,ht2,hp3,h88,st1,st2,st3]
  refine hk _ ⟨?_,?_,?_,?_,⟨q,?_,?_⟩,?_,?_,typs.store h88 gb hp3.1 hp3.2 fun N''=>?_⟩
  ·simp [e1]
  ·simp [m1]
  ·simp [e2]
  ·simp [m2]
  ·simp [e4]
  ·simp [m4]
  ·simp
  ·simp [m168]
  ·by_cases e:N''=N'
   ·simp [e,List.map_set]
   ·simp [e]
def Of11End (l:List Nde) (ws:List Wire) (e:Ex) (s:MSt):Prop:=e=.ret/\(s.env 2).v=.ptr 2 1 0 ∧
  ((¬ (oks l/\ws.length<=8)/\(s.env 3).v=.bool false/\∃ a,s.mem 2 1=some [⟨.sl true [],a⟩]) ∨
   (oks l/\ws.length<=8/\(s.env 3).v=.bool true/\∃ N L a,s.mem 2 1=some [⟨.ref 168 N 10 0 l.length l.length,a⟩]/\s.mem 168 N=some (q0f L)/\L.length=l.length/\q8U l.length (q2R l) L s))
theorem lowE_arg {m:Nat} {xs:List AV} (h:∀ x∈xs,lowV m x):LowE m (argE xs):=fun t=>by
 rw [argE_at]
 rcases Nat.lt_or_ge t xs.length with h' | h'
 ·rw [List.getD_eq_getElem?_getD,List.getElem?_eq_getElem h']
  exact h _ (List.getElem_mem h')
 ·rw [List.getD_eq_getElem?_getD,List.getElem?_eq_none h']
  exact fun _ _ _=>rfl
theorem low_noM (m:Nat):LowM m noM:=fun t n r h=>by cases h
theorem pure_noM (m:Nat):PureM m noM:=fun t n r _ h=>by cases h
theorem PureM.set {m:Nat} {M:Nat->Nat->Option (List Slot)} (h:PureM m M) {t n:Nat} {r:List Slot} (hr:∀ x∈r,q72 x):PureM m (setM M t n r):=fun t' n' r' hn he=>by
 rw [q0t] at he
 split at he
 ·injection he with he; subst he; exact hr
 ·exact h t' n' r' hn he
theorem q5V.put {e:Nat->Slot} (h:q5V e) {d:Nat} {x:Slot} (hx:q72 x):q5V (putE e d x):=fun t=>by
 rw [q2V]
 split
 ·exact hx
 ·exact h t
theorem q5V.wait {nt:Nat} {e g:Nat->Slot} (h:q5V e) (h':q5V g):q5V (waitE nt e g):=fun t=>by
 rw [q1u]
 split
 ·exact h t
 ·exact h' _
theorem pure_arg (xs:List AV):q5V (argE xs):=fun t=>by rw [argE_at]; exact q5U _
theorem pure_und:q5V undE:=fun t=>by rw [undE_at]; exact q5U _
theorem low_und (m:Nat):LowE m undE:=fun t=>by rw [undE_at]; exact fun _ _ _=>rfl
theorem of11_run {dn wn:Bool} {l:List Nde} (hl:∀ x∈l,x.ok) {ws:List Wire} (hw:∀ w∈ws,w.ok) (k:Ex->MSt->Option RV) (r:RV) (hk:∀ e s',Of11End l ws e s'->k e s'=some r):q4H.code.run (evC allT q02) (evK allT q02) (MSt.init [.agg [.sl dn (l.map ndeC),.sl wn (ws.map wireC)]] none) k=some r:=by
 simp [q4H,-Option.bind_some,-Int.toNat_lt,-List.map_map,List.range_succ]
 refine ofH_ev (dn:=dn) hl _ ?_ ?_ ?_ ?_ _ (fun hno s' hc=>?_) (fun hyes N L s' hc hN0 hN h168 hL hT=>?_)
 ·exact ((low_noM _).set (q05 (by simp [AV.free,AV.free0]))).set (q05 (by simp [AV.free,AV.free0]))
 ·refine ((pure_noM _).set fun x hx=>?_).set fun x hx=>?_
  ·simp at hx
   rcases hx with rfl | rfl <;> exact q5U _
  ·simp at hx
   subst hx
   exact pureS_ex _
 ·dsimp only
  refine LowE.wait ?_ (low_und _)
  have ha:LowE 3 (argE [.agg [.sl dn (l.map ndeC),.sl wn (ws.map wireC)]]):=lowE_arg fun x hx=>by
   simp only [List.mem_singleton] at hx
   subst hx
   exact q7o fun c hc=>by
    simp only [List.mem_cons,List.not_mem_nil,or_false] at hc
    rcases hc with rfl | rfl <;> exact q5s rfl
  repeat (first | exact ha | refine LowE.put ?_ (fun _ _ _=>rfl) | refine LowE.put ?_ (q1i (by omega)) | refine LowE.put ?_ (q7o fun c hc=>by simp only [List.mem_singleton] at hc; subst hc; exact q5s rfl))
 ·dsimp only
  refine q5V.wait ?_ pure_und
  repeat (first | exact pure_arg _ | refine q5V.put ?_ (q5U _))
 ·obtain ⟨cm,cg,co,cn,cl⟩:=hc
  dsimp only at cg cm cn
  have g1:(s'.gh 1).v=.ptr 1 1 0:=by rw [cg]; simp [q1u]
  have g2:(s'.gh 2).v=.ptr 2 1 0:=by rw [cg]; simp [q1u]
  have m1:=cm 1 1 (by omega)
  have m2:=cm 2 1 (by omega)
  simp at m1 m2
  simp [-Option.bind_some,-Int.toNat_lt,-List.map_map,List.range_succ,g1,g2,m1,m2]
  refine hk _ _ ⟨rfl,by simp [g2],.inl ⟨fun h=>hno h.1,by simp,_,by simp; rfl⟩⟩
 ·obtain ⟨cm,cg,co,cn,cl⟩:=hc
  dsimp only at cg cm cn
  have g1:(s'.gh 1).v=.ptr 1 1 0:=by rw [cg]; simp [q1u]
  have g2:(s'.gh 2).v=.ptr 2 1 0:=by rw [cg]; simp [q1u]
  have m1:=cm 1 1 (by omega)
  have m2:=cm 2 1 (by omega)
  simp at m1 m2
  by_cases h8:8<(ws.length:Int)
  ·simp [-Option.bind_some,-Int.toNat_lt,-List.map_map,List.range_succ,g1,g2,m1,m2,h8]
   refine hk _ _ ⟨rfl,by simp [g2],.inl ⟨fun h=>by have:=h.2; omega,by simp,_,by simp; rfl⟩⟩
  ·have hw8:ws.length<=8:=by omega
   simp [-Option.bind_some,-Int.toNat_lt,-List.map_map,List.range_succ,g1,g2,m1,m2,h8]
   refine q0h ws.length (fun i s=>RwI dn wn l ws N L i s) (fun e s=>e=.exit 0/\RwI dn wn l ws N L ws.length s) (fun i hi s k' h ih hk'=>?_) _ _ ?_ (fun e s h=>?_)
   ·refine q04 ?_
    by_cases hlt:i<ws.length
    ·exact rw_round hyes hw hw8 hL hlt s _ h fun s' h'=>ih hlt _ h'
    ·have hie:i=ws.length:=by omega
     subst hie
     obtain ⟨e1,m1,e2,m2,⟨q,e4,m4⟩,e6,m168,typs⟩:=h
     simp [q3E,-Option.bind_some,-Int.toNat_lt,-List.map_map,List.range_succ,e1,m1,e6]
     exact hk' _ _ ⟨rfl,by simp [e1],m1,by simp [e2],m2,⟨q,by simp [e4],m4⟩,by simp [e6],m168,typs.keep fun _=>rfl⟩
   ·exact ⟨by simp [g1],by simp [m1],by simp [g2],by simp [m2],⟨s'.next,by simp,by simp⟩,by simp,by simp [h168],(hT.toR _).keep fun _=>by simp⟩
   ·obtain ⟨rfl,e1,m1,e2,m2,⟨q,e4,m4⟩,e6,m168,typs⟩:=h
    simp [-Option.bind_some,-Int.toNat_lt,-List.map_map,List.range_succ,e4,m4,e2,m2]
    refine hk _ _ ⟨rfl,by simp [e2],.inr ⟨hyes,hw8,by simp,N,L,_,by simp; rfl,by simp [m168],hL,typs.keep fun _=>by simp⟩⟩
theorem of11_ev {dn wn:Bool} {l:List Nde} (hl:∀ x∈l,x.ok) {ws:List Wire} (hw:∀ w∈ws,w.ok):∃ r:RV,((¬ (oks l/\ws.length<=8)/\r=(.tup [.agg [.sl true []],.bool false],none))\/(oks l/\ws.length<=8/\∃ T,rwS l.length (q2R l) T/\r=(.tup [.agg [.sl false (T.map typC)],.bool true],none)))/\evC allT q02 23 [.agg [.sl dn (l.map ndeC),.sl wn (ws.map wireC)]] none=some r:=by
 refine evC_reach q4H rfl rfl (F:=Of11End l ws) (of11_run hl hw) fun e s' h=>?_
 have hres:q4H.res=[.cell 2 true 1,.tmp 3]:=rfl
 obtain ⟨rfl,e2,⟨hno,e3,a,m2⟩ | ⟨hy,h8,e3,N,L,a,m2,m168,hL,hT⟩⟩:=h
 ·exact ⟨_,by simp [fin,hres,resC,e2,e3,m2,q0C,AV.frz,AV.frz0,finV,AV.free,AV.free0,pack],.inl ⟨hno,rfl⟩⟩
 ·obtain ⟨T,g1,g2⟩:=frz_typs hT (c:=l.length) m168
  rw [hL] at g2
  have f1:AV.frz s' (.agg [.ref 168 N 10 0 l.length l.length])=.agg [.sl false (T.map typC)]:=by simp only [AV.frz,List.map_cons,List.map_nil,g2]
  have f2:AV.frz s' (.bool true)=.bool true:=rfl
  exact ⟨_,by simp [fin,hres,resC,e2,e3,m2,q0C,f1,f2,finV,AV.free,AV.free0,pack,-AV.frz,-AV.frz0],.inr ⟨hy,h8,T,g1,rfl⟩⟩
end
def intC (n:Int):List AV:=[.int .i64 n]
def Typ.usesL (t:Typ):List Int:=(t.mems.map Mem.ty++(if t.kind=8 then [t.key] else []))++(if 7<=t.kind then [t.elem] else [])
theorem uses_lp (t:Typ) (hl:t.mems.length<=8796093022206) (r:RV) (k:Ex->MSt->Option RV)
  (hk:∀ s':MSt,(s'.env 1).v=.ptr 1 1 0->s'.mem 1 1=some (q12 t)->(s'.env 3).v=.sl t.mems.isEmpty ((t.mems.map Mem.ty).map intC)->(t.mems.isEmpty=t.mems.isEmpty/\(s'.env 3).a=.ex\/t.mems.isEmpty=false/\(s'.env 3).a=.own 17 3)->k (.exit 0) s'=some r)
  (s:MSt) (h1:(s.env 1).v=.ptr 1 1 0) (h2:s.mem 1 1=some (q12 t)) (h3:(s.env 7).v=.sl t.mn (t.mems.map memC)) (h4:(s.env 8).v=.int .i64 t.mems.length) (h5:(s.env 9).v=.int .i64 0) (h6:(s.env 3).v=.sl true []) (h7:(s.env 3).a=.ex):evL allT q02 q2q s k=some r:=by
 refine q0h t.mems.length (fun i s=>(s.env 1).v=.ptr 1 1 0/\s.mem 1 1=some (q12 t)/\(s.env 7).v=.sl t.mn (t.mems.map memC)/\(s.env 8).v=.int .i64 t.mems.length/\(s.env 9).v=.int .i64 i/\(s.env 3).v=.sl (t.mems.take i).isEmpty (((t.mems.take i).map Mem.ty).map intC)/\((t.mems.take i).isEmpty=(t.mems.take i).isEmpty/\(s.env 3).a=.ex\/(t.mems.take i).isEmpty=false/\(s.env 3).a=.own 17 3))
  (fun e s=>e=.exit 0/\(s.env 1).v=.ptr 1 1 0/\s.mem 1 1=some (q12 t)/\(s.env 3).v=.sl t.mems.isEmpty ((t.mems.map Mem.ty).map intC)/\(t.mems.isEmpty=t.mems.isEmpty/\(s.env 3).a=.ex\/t.mems.isEmpty=false/\(s.env 3).a=.own 17 3)) (fun i hi s k h ih hk=>?_) _ _ ?_ (fun e s h=>?_)
 ·obtain ⟨e1,m1,e7,e8,e9,e3,an⟩:=h
  refine q04 ?_
  by_cases hlt:i<t.mems.length
  ·have hlt':(i:Int)<t.mems.length:=by omega
   have g1:(t.mems.map memC)[i]?=some (memC t.mems[i]):=by simp [hlt]
   have hw:=q0W (i:=i) (by omega)
   have ht:t.mems.take (i + 1)=t.mems.take i++[t.mems[i]]:=(List.take_append_getElem hlt).symm
   generalize t.mems[i]=x at *
   simp only [memC] at g1
   have hlen:(t.mems.take i).length=i:=by simp; omega
   generalize t.mems.take i=q at *
   have hr1:q1E 8 (q.length + 1)=true:=by rw [q0s]; omega
   have q1:q18 1 ((q.map Mem.ty).map intC)=true:=q1T _ _ _ fun _=>rfl
   rcases an with ⟨a0,a3⟩ | ⟨a0,a3⟩
   ·simp [q2q,-Option.bind_some,-Int.toNat_lt,-List.map_map,List.range_succ,e1,m1,e7,e8,e9,e3,a0,a3,hlt',g1,hw,hr1,q1]
    refine ih hlt _ ⟨?_,?_,?_,?_,?_,?_,?_⟩ <;> simp [ht,e1,m1,e7,e8,intC,An.strip]
   ·simp [q2q,-Option.bind_some,-Int.toNat_lt,-List.map_map,List.range_succ,e1,m1,e7,e8,e9,e3,a0,a3,hlt',g1,hw,hr1,q1]
    refine ih hlt _ ⟨?_,?_,?_,?_,?_,?_,?_⟩ <;> simp [ht,e1,m1,e7,e8,intC,An.strip]
  ·have hlt':¬ (i:Int)<t.mems.length:=by omega
   simp [q2q,-Option.bind_some,-Int.toNat_lt,-List.map_map,List.range_succ,e8,e9,hlt']
   rw [List.take_of_length_le (by omega)] at e3 an
   exact hk _ _ ⟨rfl,by simp [e1],by simp [m1],by simp [e3],by simpa using an⟩
 ·simp [h1,h2,h3,h4,h5,h6,h7]
 ·obtain ⟨rfl,e1,m1,e3,an⟩:=h
  exact hk s e1 m1 e3 an
theorem uses_ev (t:Typ) (hl:t.mems.length<=8796093022206) (b:Bool) (hb:b=t.usesL.isEmpty):evA 64 [.agg (typC t)] (.sl b (t.usesL.map intC)):=by
 subst hb
 refine q00 (c:=q4E) rfl rfl ?_
 simp [q4E,-Option.bind_some,-Int.toNat_lt,-List.map_map,List.range_succ,typC]
 refine uses_lp t hl _ _ (fun s e1 m1 e3 an=>?_) _ ?_ ?_ ?_ ?_ ?_ ?_ ?_
 ·have q1:q18 1 ((t.mems.map Mem.ty).map intC)=true:=q1T _ _ _ fun _=>rfl
  have hr1:q1E 8 (t.mems.length + 1)=true:=by rw [q0s]; omega
  have hr2:q1E 8 (t.mems.length + 1 + 1)=true:=by rw [q0s]; omega
  unfold Typ.usesL
  by_cases h8:t.kind=8
  ·rcases an with ⟨a0,a3⟩ | ⟨a0,a3⟩
   ·simp [-Option.bind_some,-Int.toNat_lt,-List.map_map,List.range_succ,e1,m1,e3,a0,a3,h8,q1,hr1,hr2,intC]
   ·simp [-Option.bind_some,-Int.toNat_lt,-List.map_map,List.range_succ,e1,m1,e3,a0,a3,h8,q1,hr1,hr2,intC]
  ·by_cases h7:7<=t.kind
   ·rcases an with ⟨a0,a3⟩ | ⟨a0,a3⟩
    ·simp [-Option.bind_some,-Int.toNat_lt,-List.map_map,List.range_succ,e1,m1,e3,a0,a3,h8,h7,q1,hr1,hr2,intC]
    ·simp [-Option.bind_some,-Int.toNat_lt,-List.map_map,List.range_succ,e1,m1,e3,a0,a3,h8,h7,q1,hr1,hr2,intC]
   ·simp [-Option.bind_some,-Int.toNat_lt,-List.map_map,List.range_succ,e1,m1,e3,h8,h7]
 all_goals simp
theorem ruses_lp (t:Typ) (hl:t.mems.length<=8796093022206) (r:RV) (k:Ex->MSt->Option RV)
  (hk:∀ s':MSt,(s'.env 1).v=.ptr 1 1 0->s'.mem 1 1=some (q12 t)->(s'.env 3).v=.sl t.mems.isEmpty ((t.mems.map Mem.ty).map intC)->(t.mems.isEmpty=t.mems.isEmpty/\(s'.env 3).a=.ex\/t.mems.isEmpty=false/\(s'.env 3).a=.own 20 3)->k (.exit 0) s'=some r)
  (s:MSt) (h1:(s.env 1).v=.ptr 1 1 0) (h2:s.mem 1 1=some (q12 t)) (h5:(s.env 4).v=.int .i64 0) (h6:(s.env 3).v=.sl true []) (h7:(s.env 3).a=.ex):evL allT q02 q2F s k=some r:=by
 refine q0h t.mems.length (fun i s=>(s.env 1).v=.ptr 1 1 0/\s.mem 1 1=some (q12 t)/\(s.env 4).v=.int .i64 i/\(s.env 3).v=.sl (t.mems.take i).isEmpty (((t.mems.take i).map Mem.ty).map intC)/\((t.mems.take i).isEmpty=(t.mems.take i).isEmpty/\(s.env 3).a=.ex\/(t.mems.take i).isEmpty=false/\(s.env 3).a=.own 20 3))
  (fun e s=>e=.exit 0/\(s.env 1).v=.ptr 1 1 0/\s.mem 1 1=some (q12 t)/\(s.env 3).v=.sl t.mems.isEmpty ((t.mems.map Mem.ty).map intC)/\(t.mems.isEmpty=t.mems.isEmpty/\(s.env 3).a=.ex\/t.mems.isEmpty=false/\(s.env 3).a=.own 20 3)) (fun i hi s k h ih hk=>?_) _ _ ?_ (fun e s h=>?_)
 ·obtain ⟨e1,m1,e9,e3,an⟩:=h
  refine q04 ?_
  by_cases hlt:i<t.mems.length
  ·have hlt':(i:Int)<t.mems.length:=by omega
   have g1:(t.mems.map memC)[i]?=some (memC t.mems[i]):=by simp [hlt]
   have hw:=q0W (i:=i) (by omega)
   have ht:t.mems.take (i + 1)=t.mems.take i++[t.mems[i]]:=(List.take_append_getElem hlt).symm
   generalize t.mems[i]=x at *
   simp only [memC] at g1
   have hlen:(t.mems.take i).length=i:=by simp; omega
   generalize t.mems.take i=q at *
   have hr1:q1E 8 (q.length + 1)=true:=by rw [q0s]; omega
   have q1:q18 1 ((q.map Mem.ty).map intC)=true:=q1T _ _ _ fun _=>rfl
   rcases an with ⟨a0,a3⟩ | ⟨a0,a3⟩
   ·simp [q2F,-Option.bind_some,-Int.toNat_lt,-List.map_map,List.range_succ,e1,m1,e9,e3,a0,a3,hlt',g1,hw,hr1,q1]
    refine ih hlt _ ⟨?_,?_,?_,?_,?_⟩ <;> simp [ht,e1,m1,intC,An.strip]
   ·simp [q2F,-Option.bind_some,-Int.toNat_lt,-List.map_map,List.range_succ,e1,m1,e9,e3,a0,a3,hlt',g1,hw,hr1,q1]
    refine ih hlt _ ⟨?_,?_,?_,?_,?_⟩ <;> simp [ht,e1,m1,intC,An.strip]
  ·have hlt':¬ (i:Int)<t.mems.length:=by omega
   simp [q2F,-Option.bind_some,-Int.toNat_lt,-List.map_map,List.range_succ,e1,m1,e9,hlt']
   rw [List.take_of_length_le (by omega)] at e3 an
   exact hk _ _ ⟨rfl,by simp [e1],by simp [m1],by simp [e3],by simpa using an⟩
 ·simp [h1,h2,h5,h6,h7]
 ·obtain ⟨rfl,e1,m1,e3,an⟩:=h
  exact hk s e1 m1 e3 an
theorem ruses_ev (t:Typ) (hl:t.mems.length<=8796093022206) (h9:t.kind<=9) (b:Bool) (hb:b=t.usesL.isEmpty):evA 60 [.agg (typC t)] (.sl b (t.usesL.map intC)):=by
 subst hb
 refine q00 (c:=q59) rfl rfl ?_
 simp [q59,-Option.bind_some,-Int.toNat_lt,-List.map_map,List.range_succ,typC]
 refine ruses_lp t hl _ _ (fun s e1 m1 e3 an=>?_) _ ?_ ?_ ?_ ?_ ?_
 ·have q1:q18 1 ((t.mems.map Mem.ty).map intC)=true:=q1T _ _ _ fun _=>rfl
  have hr1:q1E 8 (t.mems.length + 1)=true:=by rw [q0s]; omega
  have hr2:q1E 8 (t.mems.length + 1 + 1)=true:=by rw [q0s]; omega
  unfold Typ.usesL
  have hc:t.kind=8\/t.kind=7\/t.kind=9\/(¬ t.kind=8/\¬ t.kind=7/\¬ t.kind=9/\¬ 7<=t.kind):=by omega
  rcases hc with h | h | h | ⟨h8,h7,h9,h⟩
  ·rcases an with ⟨a0,a3⟩ | ⟨a0,a3⟩ <;> simp [-Option.bind_some,-Int.toNat_lt,-List.map_map,List.range_succ,e1,m1,e3,a0,a3,h,q1,hr1,hr2,intC]
  ·rcases an with ⟨a0,a3⟩ | ⟨a0,a3⟩ <;> simp [-Option.bind_some,-Int.toNat_lt,-List.map_map,List.range_succ,e1,m1,e3,a0,a3,h,q1,hr1,hr2,intC]
  ·rcases an with ⟨a0,a3⟩ | ⟨a0,a3⟩ <;> simp [-Option.bind_some,-Int.toNat_lt,-List.map_map,List.range_succ,e1,m1,e3,a0,a3,h,q1,hr1,hr2,intC]
  ·simp [-Option.bind_some,-Int.toNat_lt,-List.map_map,List.range_succ,e1,m1,e3,h8,h7,h9,h]
 all_goals simp
theorem form_ev1 (t:Typ) (h:t.kind=1) {T:Bool} (hs:evA 81 [.agg (typC t.left),.agg (typC q1r)] (.bool T)):evA 63 [.agg (typC t)] (.bool (T)):=by
 refine q00 (c:=q07) rfl rfl ?_
 simp [evA,typC,q1r,Typ.left,h] at hs
 simp [q07,-Option.bind_some,-Int.toNat_lt,-List.map_map,List.range_succ,typC,h,hs]
theorem form_ev2 (t:Typ) (h:t.kind=2) {T:Bool} (hs:evA 81 [.agg (typC t.left),.agg (typC q1r)] (.bool T)):evA 63 [.agg (typC t)] (.bool (decide (t.low<=t.high)&&T)):=by
 refine q00 (c:=q07) rfl rfl ?_
 simp [evA,typC,q1r,Typ.left,h] at hs
 by_cases h1:t.low<=t.high
 ·simp [q07,-Option.bind_some,-Int.toNat_lt,-List.map_map,List.range_succ,typC,h,hs,h1]
 ·simp [q07,-Option.bind_some,-Int.toNat_lt,-List.map_map,List.range_succ,typC,h,hs,h1]
theorem form_ev3 (t:Typ) (h:t.kind=3) {T:Bool} (hs:evA 81 [.agg (typC t.left),.agg (typC q1r)] (.bool T)):evA 63 [.agg (typC t)] (.bool ((decide (0<=t.max)&&decide (t.max<=200))&&T)):=by
 refine q00 (c:=q07) rfl rfl ?_
 simp [evA,typC,q1r,Typ.left,h] at hs
 by_cases h1:0<=t.max
 ·by_cases h2:t.max<=200
  ·simp [q07,-Option.bind_some,-Int.toNat_lt,-List.map_map,List.range_succ,typC,h,hs,h1,h2]
  ·simp [q07,-Option.bind_some,-Int.toNat_lt,-List.map_map,List.range_succ,typC,h,hs,h1,h2]
 ·simp [q07,-Option.bind_some,-Int.toNat_lt,-List.map_map,List.range_succ,typC,h,hs,h1]
theorem form_ev7 (t:Typ) (h:t.kind=7) {T:Bool} (hs:evA 81 [.agg (typC t.left),.agg (typC q1r)] (.bool T)):evA 63 [.agg (typC t)] (.bool ((decide (0<=t.max)&&decide (t.max<=50))&&T)):=by
 refine q00 (c:=q07) rfl rfl ?_
 simp [evA,typC,q1r,Typ.left,h] at hs
 by_cases h1:0<=t.max
 ·by_cases h2:t.max<=50
  ·simp [q07,-Option.bind_some,-Int.toNat_lt,-List.map_map,List.range_succ,typC,h,hs,h1,h2]
  ·simp [q07,-Option.bind_some,-Int.toNat_lt,-List.map_map,List.range_succ,typC,h,hs,h1,h2]
 ·simp [q07,-Option.bind_some,-Int.toNat_lt,-List.map_map,List.range_succ,typC,h,hs,h1]
theorem form_ev8 (t:Typ) (h:t.kind=8) {T:Bool} (hs:evA 81 [.agg (typC t.left),.agg (typC q1r)] (.bool T)):evA 63 [.agg (typC t)] (.bool ((decide (0<=t.max)&&decide (t.max<=50))&&T)):=by
 refine q00 (c:=q07) rfl rfl ?_
 simp [evA,typC,q1r,Typ.left,h] at hs
 by_cases h1:0<=t.max
 ·by_cases h2:t.max<=50
  ·simp [q07,-Option.bind_some,-Int.toNat_lt,-List.map_map,List.range_succ,typC,h,hs,h1,h2]
  ·simp [q07,-Option.bind_some,-Int.toNat_lt,-List.map_map,List.range_succ,typC,h,hs,h1,h2]
 ·simp [q07,-Option.bind_some,-Int.toNat_lt,-List.map_map,List.range_succ,typC,h,hs,h1]
theorem form_ev9 (t:Typ) (h:t.kind=9) {T:Bool} (hs:evA 81 [.agg (typC t.left),.agg (typC q1r)] (.bool T)):evA 63 [.agg (typC t)] (.bool (T)):=by
 refine q00 (c:=q07) rfl rfl ?_
 simp [evA,typC,q1r,Typ.left,h] at hs
 simp [q07,-Option.bind_some,-Int.toNat_lt,-List.map_map,List.range_succ,typC,h,hs]
theorem form_ev4 (t:Typ) (h:t.kind=4) {T:Bool} (hs:evA 81 [.agg (typC t.left),.agg (typC q1r)] (.bool T)) {a b:Bool} (hn:evA 78 [.str t.name] (.bool a)) (hy:evA 79 [.sl t.sn (t.syms.map symC)] (.bool b)):evA 63 [.agg (typC t)] (.bool ((a&&b)&&T)):=by
 refine q00 (c:=q07) rfl rfl ?_
 simp [evA,typC,q1r,Typ.left,h] at hs
 simp only [evA] at hn hy
 cases a with
 | false=>simp [q07,-Option.bind_some,-Int.toNat_lt,-List.map_map,List.range_succ,typC,h,hs,hn]
 | true=>cases b with
  | false=>simp [q07,-Option.bind_some,-Int.toNat_lt,-List.map_map,List.range_succ,typC,h,hs,hn,hy]
  | true=>simp [q07,-Option.bind_some,-Int.toNat_lt,-List.map_map,List.range_succ,typC,h,hs,hn,hy]
theorem form_ev5 (t:Typ) (h:t.kind=5) {T:Bool} (hs:evA 81 [.agg (typC t.left),.agg (typC q1r)] (.bool T)) {a b:Bool} (hn:evA 78 [.str t.name] (.bool a)) (hy:evA 80 [.agg (typC t)] (.bool b)):evA 63 [.agg (typC t)] (.bool ((a&&b)&&T)):=by
 refine q00 (c:=q07) rfl rfl ?_
 simp [evA,typC,q1r,Typ.left,h] at hs
 simp only [evA,typC,h] at hn hy
 cases ho:t.opn <;> simp only [ho] at hs hy <;> cases a with
 | false=>simp [q07,-Option.bind_some,-Int.toNat_lt,-List.map_map,List.range_succ,typC,h,hs,hn,ho]
 | true=>cases b with
  | false=>simp [q07,-Option.bind_some,-Int.toNat_lt,-List.map_map,List.range_succ,typC,h,hs,hn,hy,ho]
  | true=>simp [q07,-Option.bind_some,-Int.toNat_lt,-List.map_map,List.range_succ,typC,h,hs,hn,hy,ho]
theorem form_ev6 (t:Typ) (h:t.kind=6) {T:Bool} (hs:evA 81 [.agg (typC t.left),.agg (typC q1r)] (.bool T)) {a b:Bool} (hn:evA 78 [.str t.name] (.bool a)) (hy:evA 80 [.agg (typC t)] (.bool b)):evA 63 [.agg (typC t)] (.bool ((a&&b)&&T)):=by
 refine q00 (c:=q07) rfl rfl ?_
 simp [evA,typC,q1r,Typ.left,h] at hs
 simp only [evA,typC,h] at hn hy
 cases ho:t.opn <;> simp only [ho] at hs hy <;> cases a with
 | false=>simp [q07,-Option.bind_some,-Int.toNat_lt,-List.map_map,List.range_succ,typC,h,hs,hn,ho]
 | true=>cases b with
  | false=>simp [q07,-Option.bind_some,-Int.toNat_lt,-List.map_map,List.range_succ,typC,h,hs,hn,hy,ho]
  | true=>simp [q07,-Option.bind_some,-Int.toNat_lt,-List.map_map,List.range_succ,typC,h,hs,hn,hy,ho]
theorem form_ev0 (t:Typ) (h:¬ (1<=t.kind/\t.kind<=9)):evA 63 [.agg (typC t)] (.bool false):=by
 refine q00 (c:=q07) rfl rfl ?_
 have q:∀ n:Int,1<=n->n<=9->¬ t.kind=n:=fun n h1 h2 e=>h ⟨by omega,by omega⟩
 simp [q07,-Option.bind_some,-Int.toNat_lt,-List.map_map,List.range_succ,typC,q 1,q 2,q 3,q 4,q 5,q 6,q 7,q 8,q 9]
theorem form_ev (t:Typ) (ht:t.fine):evA 63 [.agg (typC t)] (.bool (q0N t)):=by
 obtain ⟨hok,hsl,hml⟩:=ht
 have hs:=tsame_ev t.left q1r (left_ok hok)
 have hn:=name_ev t.name
 have hsy:=symbols_ev t.syms hsl t.sn
 have hme:=members_ev t hok hml
 unfold q0N q62
 rcases q8O t.kind with h | h | h | h | h | h | h | h | h | h
 ·have r:=form_ev1 t h hs; simpa [h] using r
 ·have r:=form_ev2 t h hs; simpa [h] using r
 ·have r:=form_ev3 t h hs; simpa [h] using r
 ·have r:=form_ev4 t h hs hn hsy; simpa [h] using r
 ·have r:=form_ev5 t h hs hn (hme (.inl h)); simpa [h] using r
 ·have r:=form_ev6 t h hs hn (hme (.inr h)); simpa [h] using r
 ·have r:=form_ev7 t h hs; simpa [h] using r
 ·have r:=form_ev8 t h hs; simpa [h] using r
 ·have r:=form_ev9 t h hs; simpa [h] using r
 ·have r:=form_ev0 t h; rw [decide_eq_false h]; exact r
def q0D (n:Nat) (u:Int):Bool:=decide (u<0)||decide ((n:Int)<=u)
def q7j (l:List Typ) (k:Int):Int:=match l[k.toNat]? with
 | some t=>t.kind
 | none=>0
def q1F (l:List Typ) (i:Nat) (t:Typ):Int :=
 if q0N t=false then 1
 else if t.named=true/\t.name∈(l.take i).map Typ.name then 1
 else if t.usesL.any (q0D l.length)=true then 4
 else if t.kind=8/\¬ (1<=q7j l t.key/\q7j l t.key<=4) then 1
 else 0
def q1q (l:List Typ):Nat->Nat->Int
 | 0,_=>0
 | n + 1,i=>match l[i]? with
  | some t=>if q1F l i t=0 then q1q l n (i + 1) else q1F l i t
  | none=>0
def valid (l:List Typ):Int:=if 32<l.length then 3 else q1q l l.length 0
theorem q8I {l:List Typ} {i:Nat} (h:i<l.length):q1q l (l.length - i) i=if q1F l i l[i]=0 then q1q l (l.length - (i + 1)) (i + 1) else q1F l i l[i]:=by
 rw [show l.length - i=(l.length - (i + 1)) + 1 from by omega,q1q,List.getElem?_eq_getElem h]
theorem q4X {t:Typ} (h:q0N t=true):1<=t.kind/\t.kind<=9:=by
 unfold q0N at h
 rw [Bool.and_eq_true] at h
 exact of_decide_eq_true h.1
theorem isName_ne {s:ByteArray} (h:q2X s=true):s≠⟨#[]⟩:=fun e=>by
 subst e
 unfold q2X at h
 simp only [Bool.and_eq_true] at h
 have:=of_decide_eq_true h.1.1.1
 exact this rfl
theorem good_named {t:Typ} (h:q0N t=true):t.named=true ↔ t.name≠⟨#[]⟩:=by
 have hk:=q4X h
 unfold q0N q62 Typ.left at h
 rcases q8O t.kind with e | e | e | e | e | e | e | e | e | e
 all_goals first | exact absurd hk e | skip
 all_goals simp [e,Typ.same,q1r,Typ.named] at h ⊢
 all_goals first | exact isName_ne h.1.1 | (simp [h]; done) | skip
theorem key_in {l:List Typ} {t:Typ} (h8:t.kind=8) (h:t.usesL.any (q0D l.length)=false):0<=t.key/\t.key<l.length:=by
 have hm:t.key∈t.usesL:=by simp [Typ.usesL,h8]
 have:=List.any_eq_false.1 h _ hm
 simp [q0D] at this
 omega
theorem seen_set2 (s:ByteArray):∀ l:List ByteArray,s∈l->q4U (l.map q5v) (.str s) (.bool true)=l.map q5v
 | [],h=>by cases h
 | x :: r,hn=>by
  by_cases h:x=s
  ·simp [q5v,q4U,keyEq,h]
  ·have:=seen_set2 s r (by
    rcases List.mem_cons.1 hn with e | e
    ·exact absurd e.symm h
    ·exact e)
   simp [q5v,q4U,keyEq,h,this]
theorem seen_next (s:ByteArray) (q:List ByteArray):∃ q':List ByteArray,q4U (q.map q5v) (.str s) (.bool true)=q'.map q5v/\∀ x,x∈q' ↔ x∈q\/x=s:=by
 by_cases h:s∈q
 ·exact ⟨q,seen_set2 s q h,fun x=>⟨.inl,fun e=>e.elim id (fun e=>e ▸ h)⟩⟩
 ·exact ⟨q++[s],seen_set s q h,fun x=>by simp⟩
def Sch.fine (s:Sch):Prop:=s.types.length<=9223372036854775807/\∀ t∈s.types,t.fine
theorem vuses_lp (sn:Bool) (S:List Typ) (U:List Int) (hU:U.length<=9223372036854775807) (bu:Bool) (r:RV) (P:MSt->Prop) (hP:∀ s s':MSt,s'.mem=s.mem->s'.obj=s.obj->s'.next=s'.next->(∀ t,t ∉ [2,7,41,42,43,44,45,46,47,48,49,50,51,52,53,40]->s'.env t=s.env t)->P s->P s') (k:Ex->MSt->Option RV)
  (hk:∀ s',U.any (q0D S.length)=false->P s'->k (.exit 2) s'=some r) (hr:∀ s':MSt,U.any (q0D S.length)=true->(s'.env 2).v=.int .i64 4->k .ret s'=some r)
  (s:MSt) (hs:P s) (h1:(s.env 1).v=.ptr 1 1 0) (m1:s.mem 1 1=some [⟨.sl sn (S.map typC),.no⟩]) (h38:(s.env 38).v=.sl bu (U.map intC)) (h39:(s.env 39).v=.int .i64 U.length) (h40:(s.env 40).v=.int .i64 0):evL allT q02 q1n s k=some r:=by
 refine q0h U.length (fun i s=>P s/\(s.env 1).v=.ptr 1 1 0/\s.mem 1 1=some [⟨.sl sn (S.map typC),.no⟩]/\(s.env 38).v=.sl bu (U.map intC)/\(s.env 39).v=.int .i64 U.length/\(s.env 40).v=.int .i64 i/\(U.drop i).any (q0D S.length)=U.any (q0D S.length))
  (fun e s=>(e=.exit 2/\U.any (q0D S.length)=false/\P s)\/(e=.ret/\U.any (q0D S.length)=true/\(s.env 2).v=.int .i64 4)) (fun i hi s k h ih hk=>?_) _ _ ?_ (fun e s h=>?_)
 ·obtain ⟨hp,e1,m1,e38,e39,e40,hs⟩:=h
  refine q04 ?_
  by_cases hlt:i<U.length
  ·have hlt':(i:Int)<U.length:=by omega
   have g1:(U.map intC)[i]?=some (intC U[i]):=by simp [hlt]
   have hw:=q0W (i:=i) (by omega)
   rw [List.drop_eq_getElem_cons hlt,List.any_cons] at hs
   generalize U[i]=u at *
   simp only [intC] at g1
   by_cases c1:u<0
   ·simp [q1n,-Option.bind_some,-Int.toNat_lt,-List.map_map,List.range_succ,e1,m1,e38,e39,e40,hlt',g1,c1]
    exact hk _ _ (.inr ⟨rfl,by rw [<- hs]; simp [q0D,c1],by simp⟩)
   by_cases c2:(S.length:Int)<=u
   ·simp [q1n,-Option.bind_some,-Int.toNat_lt,-List.map_map,List.range_succ,e1,m1,e38,e39,e40,hlt',g1,c1,c2]
    exact hk _ _ (.inr ⟨rfl,by rw [<- hs]; simp [q0D,c2],by simp⟩)
   simp [q1n,-Option.bind_some,-Int.toNat_lt,-List.map_map,List.range_succ,e1,m1,e38,e39,e40,hlt',g1,c1,c2,hw]
   refine ih hlt _ ⟨hP s _ ?_ ?_ ?_ ?_ hp,?_,?_,?_,?_,?_,?_⟩
   ·rfl
   ·rfl
   ·rfl
   ·intro t ht
    simp only [List.mem_cons,List.not_mem_nil,or_false,not_or] at ht
    simp [q2V,ht]
   ·simp [e1]
   ·simp [m1]
   ·simp [e38]
   ·simp [e39]
   ·simp
   ·rw [<- hs]; simp [q0D,c1,c2]
  ·have hlt':¬ (i:Int)<U.length:=by omega
   simp [q1n,-Option.bind_some,-Int.toNat_lt,-List.map_map,List.range_succ,e39,e40,hlt']
   rw [List.drop_eq_nil_of_le (by omega)] at hs
   refine hk _ _ (.inl ⟨rfl,hs.symm,hP s _ ?_ ?_ ?_ ?_ hp⟩)
   ·rfl
   ·rfl
   ·rfl
   ·intro t ht
    simp only [List.mem_cons,List.not_mem_nil,or_false,not_or] at ht
    simp [q2V,ht]
 ·simp [hs,h1,m1,h38,h39,h40]
 ·rcases h with ⟨rfl,h1,h2⟩ | ⟨rfl,h1,h2⟩
  ·exact hk s h1 h2
  ·exact hr s h1 h2
theorem valid_ev (s:Sch) (hs:s.fine):evA 44 [.agg (schC s)] (.int .i64 (valid s.types)):=by
 obtain ⟨hlen,hfine⟩:=hs
 refine q00 (c:=q31) rfl rfl ?_
 unfold valid
 by_cases h32:32<s.types.length
 ·have h32':(32:Int)<s.types.length:=by omega
  simp [q31,-Option.bind_some,-Int.toNat_lt,-List.map_map,List.range_succ,schC,h32,h32']
 have h32':¬ (32:Int)<s.types.length:=by omega
 simp [q31,-Option.bind_some,-Int.toNat_lt,-List.map_map,List.range_succ,schC,h32,h32']
 refine q0h s.types.length (fun i σ=>(σ.env 1).v=.ptr 1 1 0/\σ.mem 1 1=some [⟨.sl s.nl (s.types.map typC),.no⟩]/\(σ.env 3).v=.mp 12 3/\(σ.env 14).v=.sl s.nl (s.types.map typC)/\(σ.env 15).v=.int .i64 s.types.length/\(σ.env 16).v=.int .i64 i/\(∃ q:List ByteArray,σ.obj 12 3=some (q5o (q.map q5v))/\∀ x,x∈q ↔ x∈(s.types.take i).map Typ.name)/\q1q s.types (s.types.length - i) i=q1q s.types s.types.length 0)
  (fun e σ=>(e=.exit 0/\q1q s.types s.types.length 0=0)\/(e=.ret/\(σ.env 2).v=.int .i64 (q1q s.types s.types.length 0))) (fun i hi σ k h ih hk=>?_) _ _ ?_ (fun e σ h=>?_)
 ·obtain ⟨e1,m1,e3,e14,e15,e16,⟨q,o,hq⟩,hv⟩:=h
  refine q04 ?_
  by_cases hlt:i<s.types.length
  ·have hlt':(i:Int)<s.types.length:=by omega
   have g1:(s.types.map typC)[i]?=some (typC s.types[i]):=by simp [hlt]
   have hw:=q0W (i:=i) (by omega)
   have ht:s.types.take (i + 1)=s.types.take i++[s.types[i]]:=(List.take_append_getElem hlt).symm
   have hf:=form_ev s.types[i] (hfine _ (List.getElem_mem _))
   have hu:=uses_ev s.types[i] (hfine _ (List.getElem_mem _)).2.2 _ rfl
   have hml:=(hfine _ (List.getElem_mem hlt)).2.2
   rw [q8I hlt] at hv
   generalize s.types[i]=t at *
   have hul:t.usesL.length<=9223372036854775807:=by
    unfold Typ.usesL
    by_cases h8:t.kind=8 <;> by_cases h7:7<=t.kind <;> simp [h8,h7] <;> omega
   simp only [evA,typC] at hf hu
   simp only [typC] at g1
   have hg:=seen_get t.name q
   have hko:=seen_ok q
   obtain ⟨q',hq',hmem⟩:=seen_next t.name q
   have err:∀ σ' n,q1F s.types i t=n->n≠0->(σ'.env 2).v=.int .i64 n->k .ret σ'=some (.int .i64 (q1q s.types s.types.length 0),none):=fun σ' n h1 h2 h3=>hk _ _ (.inr ⟨rfl,by rw [h3,<- hv,h1,if_neg h2]⟩)
   cases c1:q0N t with
   | false =>
    rw [c1] at hf
    simp [q0z,-Option.bind_some,-Int.toNat_lt,-List.map_map,List.range_succ,e1,m1,e3,e14,e15,e16,hlt',g1,hf]
    exact err _ 1 (by simp [q1F,c1]) (by decide) (by simp)
   | true =>
    rw [c1] at hf
    have hnm:=good_named c1
    have dup:t.name≠⟨#[]⟩->t.name∈q->q0z.run (evC allT q02) (evK allT q02) σ (q7Q (evL allT q02) q0z k)=some (.int .i64 (q1q s.types s.types.length 0),none):=by
     intro hn hin
     have hd:=eq_false hn
     rw [if_pos hin] at hg
     simp [q0z,-Option.bind_some,-Int.toNat_lt,-List.map_map,List.range_succ,e1,m1,e3,e14,e15,e16,hlt',g1,hf,hd,o,q4x,hko,q5C,AV.flat,AV.scal,hg]
     exact err _ 1 (by unfold q1F; rw [if_neg (by simp [c1]),if_pos ⟨hnm.2 hn,(hq _).1 hin⟩]) (by decide) (by simp)
    have go:(t.name=⟨#[]⟩\/t.name≠⟨#[]⟩/\¬ t.name∈q)->q0z.run (evC allT q02) (evK allT q02) σ (q7Q (evL allT q02) q0z k)=some (.int .i64 (q1q s.types s.types.length 0),none):=by
     intro hn
     have c2:¬ (t.named=true/\t.name∈(s.types.take i).map Typ.name):=fun ⟨h1,h2⟩=>by
      rcases hn with hn | hn
      ·exact (hnm.1 h1) hn
      ·exact hn.2 ((hq _).2 h2)
     have fin:∀ (σ':MSt) (k':Ex->MSt->Option RV) (p:Nat),(∀ σ2:MSt,(σ2.env 2).v=.int .i64 4->k' .ret σ2=k .ret σ2) →
       (∀ σ2:MSt,(σ2.env 1).v=.ptr 1 1 0->σ2.mem 1 1=some [⟨.sl s.nl (s.types.map typC),.no⟩]->(σ2.env 3).v=.mp 12 3->(σ2.env 14).v=.sl s.nl (s.types.map typC)->(σ2.env 15).v=.int .i64 s.types.length->(σ2.env 16).v=.int .i64 i->σ2.obj 12 3=some (q5o (q'.map q5v))->(σ2.env 5).v=.ptr 5 p 0->σ2.mem 5 p=some (q12 t)->t.usesL.any (q0D s.types.length)=false->k' (.exit 2) σ2=some (.int .i64 (q1q s.types s.types.length 0),none)) →
       (σ'.env 1).v=.ptr 1 1 0->σ'.mem 1 1=some [⟨.sl s.nl (s.types.map typC),.no⟩]->(σ'.env 3).v=.mp 12 3->(σ'.env 14).v=.sl s.nl (s.types.map typC)->(σ'.env 15).v=.int .i64 s.types.length->(σ'.env 16).v=.int .i64 i->σ'.obj 12 3=some (q5o (q'.map q5v))->(σ'.env 5).v=.ptr 5 p 0->σ'.mem 5 p=some (q12 t)->(σ'.env 38).v=.sl t.usesL.isEmpty (t.usesL.map intC)->(σ'.env 39).v=.int .i64 t.usesL.length->(σ'.env 40).v=.int .i64 0->evL allT q02 q1n σ' k'=some (.int .i64 (q1q s.types s.types.length 0),none):=by
      intro σ' k' p hret hex f1 fm f3 f14 f15 f16 fo f5 fp f38 f39 f40
      refine vuses_lp s.nl s.types t.usesL hul t.usesL.isEmpty _ (fun σ2=>(σ2.env 1).v=.ptr 1 1 0/\σ2.mem 1 1=some [⟨.sl s.nl (s.types.map typC),.no⟩]/\(σ2.env 3).v=.mp 12 3/\(σ2.env 14).v=.sl s.nl (s.types.map typC)/\(σ2.env 15).v=.int .i64 s.types.length/\(σ2.env 16).v=.int .i64 i/\σ2.obj 12 3=some (q5o (q'.map q5v))/\(σ2.env 5).v=.ptr 5 p 0/\σ2.mem 5 p=some (q12 t)) (fun a b hm ho _ he h=>?_) k' (fun σ2 hu h=>?_) (fun σ2 hu h2=>?_) σ' ⟨f1,fm,f3,f14,f15,f16,fo,f5,fp⟩ f1 fm f38 f39 f40
      ·rw [hm,ho,he 1 (by decide),he 3 (by decide),he 14 (by decide),he 15 (by decide),he 16 (by decide),he 5 (by decide)]
       exact h
      ·obtain ⟨f1,fm,f3,f14,f15,f16,fo,f5,fp⟩:=h
       exact hex σ2 f1 fm f3 f14 f15 f16 fo f5 fp hu
      ·rw [hret σ2 h2]
       exact err _ 4 (by unfold q1F; rw [if_neg (by simp [c1]),if_neg c2,if_pos hu]) (by decide) h2
     have key:t.usesL.any (q0D s.types.length)=false->t.kind=8->0<=t.key/\∃ y:Typ,(s.types.map typC)[t.key.toNat]?=some (typC y)/\q7j s.types t.key=y.kind:=fun hu h8=>by
      obtain ⟨h1,h2⟩:=key_in h8 hu
      have h3:t.key.toNat<s.types.length:=by omega
      exact ⟨h1,s.types[t.key.toNat],by rw [List.getElem?_map,List.getElem?_eq_getElem h3]; rfl,by unfold q7j; rw [List.getElem?_eq_getElem h3]⟩
     have next:q1F s.types i t=0->∀ σ2:MSt,(σ2.env 1).v=.ptr 1 1 0->σ2.mem 1 1=some [⟨.sl s.nl (s.types.map typC),.no⟩]->(σ2.env 3).v=.mp 12 3->(σ2.env 14).v=.sl s.nl (s.types.map typC)->(σ2.env 15).v=.int .i64 s.types.length->(σ2.env 16).v=.int .i64 ((i + 1:Nat):Int)->σ2.obj 12 3=some (q5o (q'.map q5v))->evL allT q02 q0z σ2 k=some (.int .i64 (q1q s.types s.types.length 0),none):=fun h0 σ2 f1 fm f3 f14 f15 f16 fo=>ih hlt _ ⟨f1,fm,f3,f14,f15,f16,⟨q',fo,fun x=>by rw [hmem,ht,List.map_append,List.mem_append,hq]; simp⟩,by rw [<- hv,h0]; rfl⟩
     have hgn:t.name=⟨#[]⟩\/t.name≠⟨#[]⟩/\q5D (q.map q5v) (.str t.name)=none:=by
      rcases hn with hn | ⟨h1,h2⟩
      ·exact .inl hn
      ·exact .inr ⟨h1,by rw [hg,if_neg h2]⟩
     rcases hgn with hd | ⟨hd,hg⟩
     ·have hd:=eq_true hd
      simp [q0z,-Option.bind_some,-Int.toNat_lt,-List.map_map,List.range_succ,e1,m1,e3,e14,e15,e16,hlt',g1,hf,hu,hd,o,q4x,hko,q5C,AV.flat,AV.scal,hq']
      refine fin _ _ (σ.next + 1) (fun σ2 _=>rfl) (fun σ2 f1 fm f3 f14 f15 f16 fo f5 fp hus=>?_) ?_ ?_ ?_ ?_ ?_ ?_ ?_ ?_ ?_ ?_ ?_ ?_
      rotate_left
      ·simp [e1]
      ·simp [m1]
      ·simp [e3]
      ·simp [e14]
      ·simp [e15]
      ·simp [e16]
      ·simp
      ·simp
      ·simp
      ·simp
      ·simp
      ·simp
      have c3:=hus
      by_cases h8:t.kind=8
      ·obtain ⟨hk0,y,gy,hy⟩:=key hus h8
       simp only [typC] at gy
       by_cases c4:y.kind<1
       ·simp [-Option.bind_some,-Int.toNat_lt,-List.map_map,List.range_succ,f1,fm,f5,fp,h8,hk0,gy,c4]
        exact err _ 1 (by unfold q1F; rw [if_neg (by simp [c1]),if_neg c2,if_neg (by simp [c3]),if_pos ⟨h8,by rw [hy]; omega⟩]) (by decide) (by simp)
       ·by_cases c5:4<y.kind
        ·simp [-Option.bind_some,-Int.toNat_lt,-List.map_map,List.range_succ,f1,fm,f5,fp,h8,hk0,gy,c4,c5]
         exact err _ 1 (by unfold q1F; rw [if_neg (by simp [c1]),if_neg c2,if_neg (by simp [c3]),if_pos ⟨h8,by rw [hy]; omega⟩]) (by decide) (by simp)
        ·simp [-Option.bind_some,-Int.toNat_lt,-List.map_map,List.range_succ,f1,fm,f5,fp,f16,h8,hk0,gy,c4,c5,hw]
         refine next (by unfold q1F; rw [if_neg (by simp [c1]),if_neg c2,if_neg (by simp [c3]),if_neg fun h=>h.2 (by rw [hy]; omega)]) _ ?_ ?_ ?_ ?_ ?_ ?_ ?_ <;> simp [f1,fm,f3,f14,f15,fo]
      ·simp [-Option.bind_some,-Int.toNat_lt,-List.map_map,List.range_succ,f1,fm,f5,fp,f16,h8,hw]
       refine next (by unfold q1F; rw [if_neg (by simp [c1]),if_neg c2,if_neg (by simp [c3]),if_neg fun h=>h8 h.1]) _ ?_ ?_ ?_ ?_ ?_ ?_ ?_ <;> simp [f1,fm,f3,f14,f15,fo]
     ·have hd:=eq_false hd
      simp [q0z,-Option.bind_some,-Int.toNat_lt,-List.map_map,List.range_succ,e1,m1,e3,e14,e15,e16,hlt',g1,hf,hu,hd,hg,o,q4x,hko,q5C,AV.flat,AV.scal,hq']
      refine fin _ _ (σ.next + 1) (fun σ2 _=>rfl) (fun σ2 f1 fm f3 f14 f15 f16 fo f5 fp hus=>?_) ?_ ?_ ?_ ?_ ?_ ?_ ?_ ?_ ?_ ?_ ?_ ?_
      rotate_left
      ·simp [e1]
      ·simp [m1]
      ·simp [e3]
      ·simp [e14]
      ·simp [e15]
      ·simp [e16]
      ·simp
      ·simp
      ·simp
      ·simp
      ·simp
      ·simp
      have c3:=hus
      by_cases h8:t.kind=8
      ·obtain ⟨hk0,y,gy,hy⟩:=key hus h8
       simp only [typC] at gy
       by_cases c4:y.kind<1
       ·simp [-Option.bind_some,-Int.toNat_lt,-List.map_map,List.range_succ,f1,fm,f5,fp,h8,hk0,gy,c4]
        exact err _ 1 (by unfold q1F; rw [if_neg (by simp [c1]),if_neg c2,if_neg (by simp [c3]),if_pos ⟨h8,by rw [hy]; omega⟩]) (by decide) (by simp)
       ·by_cases c5:4<y.kind
        ·simp [-Option.bind_some,-Int.toNat_lt,-List.map_map,List.range_succ,f1,fm,f5,fp,h8,hk0,gy,c4,c5]
         exact err _ 1 (by unfold q1F; rw [if_neg (by simp [c1]),if_neg c2,if_neg (by simp [c3]),if_pos ⟨h8,by rw [hy]; omega⟩]) (by decide) (by simp)
        ·simp [-Option.bind_some,-Int.toNat_lt,-List.map_map,List.range_succ,f1,fm,f5,fp,f16,h8,hk0,gy,c4,c5,hw]
         refine next (by unfold q1F; rw [if_neg (by simp [c1]),if_neg c2,if_neg (by simp [c3]),if_neg fun h=>h.2 (by rw [hy]; omega)]) _ ?_ ?_ ?_ ?_ ?_ ?_ ?_ <;> simp [f1,fm,f3,f14,f15,fo]
      ·simp [-Option.bind_some,-Int.toNat_lt,-List.map_map,List.range_succ,f1,fm,f5,fp,f16,h8,hw]
       refine next (by unfold q1F; rw [if_neg (by simp [c1]),if_neg c2,if_neg (by simp [c3]),if_neg fun h=>h8 h.1]) _ ?_ ?_ ?_ ?_ ?_ ?_ ?_ <;> simp [f1,fm,f3,f14,f15,fo]
    by_cases hin:t.name≠⟨#[]⟩/\t.name∈q
    ·exact dup hin.1 hin.2
    ·refine go ?_
     by_cases he:t.name=⟨#[]⟩
     ·exact .inl he
     ·exact .inr ⟨he,fun h=>hin ⟨he,h⟩⟩
  ·have hlt':¬ (i:Int)<s.types.length:=by omega
   simp [q0z,-Option.bind_some,-Int.toNat_lt,-List.map_map,List.range_succ,e15,e16,hlt']
   refine hk _ _ (.inl ⟨rfl,?_⟩)
   rw [<- hv,show s.types.length - i=0 from by omega,q1q]
 ·refine ⟨?_,?_,?_,?_,?_,?_,⟨[],?_,?_⟩,?_⟩ <;> simp [q5o]
 ·rcases h with ⟨rfl,h1⟩ | ⟨rfl,h1⟩
  ·simp [-Option.bind_some,-Int.toNat_lt,-List.map_map,List.range_succ,h1]
  ·simp [-Option.bind_some,-Int.toNat_lt,-List.map_map,List.range_succ,h1]
def idxI {α:Type} (p:α->Bool):List α->Int
 | []=>-1
 | x :: r=>if p x=true then 0 else if idxI p r=-1 then -1 else idxI p r + 1
theorem q2U {α:Type} (p:α->Bool):∀ l:List α,-1<=idxI p l
 | []=>by simp [idxI]
 | x :: r=>by
  have:=q2U p r
  simp only [idxI]
  split
  ·omega
  ·split <;> omega
theorem q6E {α:Type} (p:α->Bool) (x:α) (r:List α) (h:p x=false):idxI p (x :: r)=if idxI p r=-1 then -1 else idxI p r + 1:=by simp [idxI,h]
theorem idxI_some {α:Type} (p:α->Bool):∀ l:List α,idxI p l≠-1->∃ x,l[(idxI p l).toNat]?=some x/\p x=true
 | [],h=>absurd rfl h
 | x :: r,h=>by
  simp only [idxI] at h ⊢
  by_cases hx:p x=true
  ·rw [if_pos hx]; exact ⟨x,rfl,hx⟩
  ·rw [if_neg hx] at h ⊢
   by_cases h1:idxI p r=-1
   ·rw [if_pos h1] at h; exact absurd rfl h
   ·rw [if_neg h1]
    obtain ⟨y,h2,h3⟩:=idxI_some p r h1
    have:=q2U p r
    refine ⟨y,?_,h3⟩
    rw [show (idxI p r + 1).toNat=(idxI p r).toNat + 1 from by omega,List.getElem?_cons_succ]
    exact h2
theorem idxI_any {α:Type} (p:α->Bool):∀ l:List α,(decide (0<=idxI p l))=l.any p
 | []=>by simp [idxI]
 | x :: r=>by
  have h1:=idxI_any p r
  have h2:=q2U p r
  rw [List.any_cons,<- h1]
  simp only [idxI]
  by_cases hx:p x=true
  ·simp [hx]
  ·by_cases h:idxI p r=-1
   ·simp [hx,h]
   ·simp [hx,h]; omega
theorem indexf_Mem_ev (F:Nat) (caps:List AV) (l:List Mem) (p:Mem->Bool) (hl:l.length<=9223372036854775807) (hcap:∀ (s:MSt) (cl:Cl),q2c s cl caps=some caps) (hF:∀ x∈l,evA F (.agg (memC x) :: caps) (.bool (p x))) (b:Bool):evA 126 [.sl b (l.map memC),.fn F caps] (.int .i64 (idxI p l)):=by
 refine q00 (c:=q10) rfl rfl ?_
 simp [q10,-Option.bind_some,-Int.toNat_lt,-List.map_map,List.range_succ]
 refine q0h l.length (fun i s=>(s.env 0).v=.sl b (l.map memC)/\(s.env 1).v=.fn F caps/\(s.env 7).v=.int .i64 l.length/\(s.env 8).v=.int .i64 i/\idxI p l=(if idxI p (l.drop i)=-1 then -1 else idxI p (l.drop i) + i))
  (fun e s=>(e=.exit 0/\idxI p l=-1)\/(e=.ret/\(s.env 4).v=.int .i64 (idxI p l))) (fun i hi s k h ih hk=>?_) _ _ ?_ (fun e s h=>?_)
 ·obtain ⟨e0,e1,e7,e8,hs⟩:=h
  refine q04 ?_
  by_cases hlt:i<l.length
  ·have hlt':(i:Int)<l.length:=by omega
   have g1:(l.map memC)[i]?=some (memC l[i]):=by simp [hlt]
   have hw:=q0W (i:=i) (by omega)
   have hx:=hF l[i] (List.getElem_mem _)
   rw [List.drop_eq_getElem_cons hlt] at hs
   generalize l[i]=x at *
   simp only [evA,memC] at g1 hx
   cases hp:p x with
   | true =>
    rw [hp] at hx
    simp [q0Q,-Option.bind_some,-Int.toNat_lt,-List.map_map,List.range_succ,e0,e1,e7,e8,hlt',g1,hcap,hx]
    refine hk _ _ (.inr ⟨rfl,?_⟩)
    simp [hs,idxI,hp]
   | false =>
    rw [hp] at hx
    simp [q0Q,-Option.bind_some,-Int.toNat_lt,-List.map_map,List.range_succ,e0,e1,e7,e8,hlt',g1,hcap,hx,hw]
    refine ih hlt _ ⟨?_,?_,?_,?_,?_⟩
    ·simp [e0]
    ·simp [e1]
    ·simp [e7]
    ·simp
    ·rw [hs,q6E p x _ hp]
     have:=q2U p (l.drop (i + 1))
     by_cases h1:idxI p (l.drop (i + 1))=-1
     ·simp [h1]
     ·have h2:¬ idxI p (l.drop (i + 1)) + 1=-1:=by omega
      rw [if_neg h1,if_neg h2,if_neg h1]
      omega
  ·have hlt':¬ (i:Int)<l.length:=by omega
   simp [q0Q,-Option.bind_some,-Int.toNat_lt,-List.map_map,List.range_succ,e7,e8,hlt']
   rw [List.drop_eq_nil_of_le (by omega)] at hs
   exact hk _ _ (.inl ⟨rfl,hs⟩)
 ·have:=q2U p l
  by_cases h1:idxI p l=-1 <;> simp [h1]
 ·rcases h with ⟨rfl,h1⟩ | ⟨rfl,h1⟩ <;> simp [-Option.bind_some,-Int.toNat_lt,-List.map_map,List.range_succ,h1]
theorem indexf_Sym_ev (F:Nat) (caps:List AV) (l:List Sym) (p:Sym->Bool) (hl:l.length<=9223372036854775807) (hcap:∀ (s:MSt) (cl:Cl),q2c s cl caps=some caps) (hF:∀ x∈l,evA F (.agg (symC x) :: caps) (.bool (p x))) (b:Bool):evA 124 [.sl b (l.map symC),.fn F caps] (.int .i64 (idxI p l)):=by
 refine q00 (c:=q11) rfl rfl ?_
 simp [q11,-Option.bind_some,-Int.toNat_lt,-List.map_map,List.range_succ]
 refine q0h l.length (fun i s=>(s.env 0).v=.sl b (l.map symC)/\(s.env 1).v=.fn F caps/\(s.env 7).v=.int .i64 l.length/\(s.env 8).v=.int .i64 i/\idxI p l=(if idxI p (l.drop i)=-1 then -1 else idxI p (l.drop i) + i))
  (fun e s=>(e=.exit 0/\idxI p l=-1)\/(e=.ret/\(s.env 4).v=.int .i64 (idxI p l))) (fun i hi s k h ih hk=>?_) _ _ ?_ (fun e s h=>?_)
 ·obtain ⟨e0,e1,e7,e8,hs⟩:=h
  refine q04 ?_
  by_cases hlt:i<l.length
  ·have hlt':(i:Int)<l.length:=by omega
   have g1:(l.map symC)[i]?=some (symC l[i]):=by simp [hlt]
   have hw:=q0W (i:=i) (by omega)
   have hx:=hF l[i] (List.getElem_mem _)
   rw [List.drop_eq_getElem_cons hlt] at hs
   generalize l[i]=x at *
   simp only [evA,symC] at g1 hx
   cases hp:p x with
   | true =>
    rw [hp] at hx
    simp [q0O,-Option.bind_some,-Int.toNat_lt,-List.map_map,List.range_succ,e0,e1,e7,e8,hlt',g1,hcap,hx]
    refine hk _ _ (.inr ⟨rfl,?_⟩)
    simp [hs,idxI,hp]
   | false =>
    rw [hp] at hx
    simp [q0O,-Option.bind_some,-Int.toNat_lt,-List.map_map,List.range_succ,e0,e1,e7,e8,hlt',g1,hcap,hx,hw]
    refine ih hlt _ ⟨?_,?_,?_,?_,?_⟩
    ·simp [e0]
    ·simp [e1]
    ·simp [e7]
    ·simp
    ·rw [hs,q6E p x _ hp]
     have:=q2U p (l.drop (i + 1))
     by_cases h1:idxI p (l.drop (i + 1))=-1
     ·simp [h1]
     ·have h2:¬ idxI p (l.drop (i + 1)) + 1=-1:=by omega
      rw [if_neg h1,if_neg h2,if_neg h1]
      omega
  ·have hlt':¬ (i:Int)<l.length:=by omega
   simp [q0O,-Option.bind_some,-Int.toNat_lt,-List.map_map,List.range_succ,e7,e8,hlt']
   rw [List.drop_eq_nil_of_le (by omega)] at hs
   exact hk _ _ (.inl ⟨rfl,hs⟩)
 ·have:=q2U p l
  by_cases h1:idxI p l=-1 <;> simp [h1]
 ·rcases h with ⟨rfl,h1⟩ | ⟨rfl,h1⟩ <;> simp [-Option.bind_some,-Int.toNat_lt,-List.map_map,List.range_succ,h1]
theorem indexf_Vl_ev (F:Nat) (caps:List AV) (l:List Vl) (p:Vl->Bool) (hl:l.length<=9223372036854775807) (hcap:∀ (s:MSt) (cl:Cl),q2c s cl caps=some caps) (hF:∀ x∈l,evA F (.agg (valC x) :: caps) (.bool (p x))) (b:Bool):evA 147 [.sl b (l.map valC),.fn F caps] (.int .i64 (idxI p l)):=by
 refine q00 (c:=q17) rfl rfl ?_
 simp [q17,-Option.bind_some,-Int.toNat_lt,-List.map_map,List.range_succ]
 refine q0h l.length (fun i s=>(s.env 0).v=.sl b (l.map valC)/\(s.env 1).v=.fn F caps/\(s.env 7).v=.int .i64 l.length/\(s.env 8).v=.int .i64 i/\idxI p l=(if idxI p (l.drop i)=-1 then -1 else idxI p (l.drop i) + i))
  (fun e s=>(e=.exit 0/\idxI p l=-1)\/(e=.ret/\(s.env 4).v=.int .i64 (idxI p l))) (fun i hi s k h ih hk=>?_) _ _ ?_ (fun e s h=>?_)
 ·obtain ⟨e0,e1,e7,e8,hs⟩:=h
  refine q04 ?_
  by_cases hlt:i<l.length
  ·have hlt':(i:Int)<l.length:=by omega
   have g1:(l.map valC)[i]?=some (valC l[i]):=by simp [hlt]
   have hw:=q0W (i:=i) (by omega)
   have hx:=hF l[i] (List.getElem_mem _)
   rw [List.drop_eq_getElem_cons hlt] at hs
   generalize l[i]=x at *
   simp only [evA,q03] at g1 hx
   cases hp:p x with
   | true =>
    rw [hp] at hx
    simp [q0R,-Option.bind_some,-Int.toNat_lt,-List.map_map,List.range_succ,e0,e1,e7,e8,hlt',g1,hcap,hx]
    refine hk _ _ (.inr ⟨rfl,?_⟩)
    simp [hs,idxI,hp]
   | false =>
    rw [hp] at hx
    simp [q0R,-Option.bind_some,-Int.toNat_lt,-List.map_map,List.range_succ,e0,e1,e7,e8,hlt',g1,hcap,hx,hw]
    refine ih hlt _ ⟨?_,?_,?_,?_,?_⟩
    ·simp [e0]
    ·simp [e1]
    ·simp [e7]
    ·simp
    ·rw [hs,q6E p x _ hp]
     have:=q2U p (l.drop (i + 1))
     by_cases h1:idxI p (l.drop (i + 1))=-1
     ·simp [h1]
     ·have h2:¬ idxI p (l.drop (i + 1)) + 1=-1:=by omega
      rw [if_neg h1,if_neg h2,if_neg h1]
      omega
  ·have hlt':¬ (i:Int)<l.length:=by omega
   simp [q0R,-Option.bind_some,-Int.toNat_lt,-List.map_map,List.range_succ,e7,e8,hlt']
   rw [List.drop_eq_nil_of_le (by omega)] at hs
   exact hk _ _ (.inl ⟨rfl,hs⟩)
 ·have:=q2U p l
  by_cases h1:idxI p l=-1 <;> simp [h1]
 ·rcases h with ⟨rfl,h1⟩ | ⟨rfl,h1⟩ <;> simp [-Option.bind_some,-Int.toNat_lt,-List.map_map,List.range_succ,h1]
theorem mem1_ev (x:Mem) (id:Int):evA 127 [.agg (memC x),.bp [.int .i64 id]] (.bool (decide (x.id=id))):=by
 refine q00 (c:=q2y) rfl rfl ?_
 simp [q2y,-Option.bind_some,-Int.toNat_lt,-List.map_map,List.range_succ,memC]
def q5u (l:List Mem) (id:Int):Int:=idxI (fun x=>decide (x.id=id)) l
def memA (l:List Mem) (id:Int):AV:=.tup [.int .i64 (max (q5u l id) 0),.bool (decide (0<=q5u l id))]
theorem mem_ev (t:Typ) (id:Int) (hl:t.mems.length<=9223372036854775807):evA 112 [.agg (typC t),.int .i64 id] (memA t.mems id):=by
 refine q00 (c:=q3r) rfl rfl ?_
 have h:=indexf_Mem_ev 127 [.bp [.int .i64 id]] t.mems (fun x=>decide (x.id=id)) hl (fun _ _=>rfl) (fun x _=>mem1_ev x id) t.mn
 simp only [evA] at h
 unfold memA q5u
 simp [q3r,-Option.bind_some,-Int.toNat_lt,-List.map_map,List.range_succ,typC,h]
theorem rmem_ev (t:Typ) (id:Int) (hl:t.mems.length<=9223372036854775807):evA 98 [.agg (typC t),.int .i64 id] (memA t.mems id):=by
 refine q00 (c:=q3W) rfl rfl ?_
 obtain ⟨p,hp⟩:∃ p:Mem->Bool,p=fun x=>decide (x.id=id):=⟨_,rfl⟩
 unfold memA q5u
 rw [<- hp]
 simp [q3W,-Option.bind_some,-Int.toNat_lt,-List.map_map,List.range_succ,typC]
 refine q0h t.mems.length (fun i s=>(s.env 1).v=.int .i64 id/\(s.env 2).v=.ptr 2 1 0/\s.mem 2 1=some (q12 t)/\(s.env 6).v=.int .i64 i/\idxI p t.mems=(if idxI p (t.mems.drop i)=-1 then -1 else idxI p (t.mems.drop i) + i))
  (fun e s=>(e=.exit 0/\idxI p t.mems=-1)\/(e=.ret/\0<=idxI p t.mems/\(s.env 4).v=.int .i64 (idxI p t.mems)/\(s.env 5).v=.bool true)) (fun i hi s k h ih hk=>?_) _ _ ?_ (fun e s h=>?_)
 ·obtain ⟨e1,e2,m2,e6,hs⟩:=h
  refine q04 ?_
  by_cases hlt:i<t.mems.length
  ·have hlt':(i:Int)<t.mems.length:=by omega
   have g1:(t.mems.map memC)[i]?=some (memC t.mems[i]):=by simp [hlt]
   have hw:=q0W (i:=i) (by omega)
   rw [List.drop_eq_getElem_cons hlt] at hs
   generalize t.mems[i]=x at *
   simp only [memC] at g1
   by_cases hx:x.id=id
   ·simp [q2O,-Option.bind_some,-Int.toNat_lt,-List.map_map,List.range_succ,e1,e2,m2,e6,hlt',g1,hx]
    have hpx:p x=true:=by rw [hp]; exact decide_eq_true hx
    refine hk _ _ (.inr ⟨rfl,?_,?_,?_⟩)
    ·rw [hs]; simp [idxI,hpx]
    ·simp [hs,idxI,hpx]
    ·simp
   ·have hpx:p x=false:=by rw [hp]; exact decide_eq_false hx
    simp [q2O,-Option.bind_some,-Int.toNat_lt,-List.map_map,List.range_succ,e1,e2,m2,e6,hlt',g1,hx,hw]
    refine ih hlt _ ⟨?_,?_,?_,?_,?_⟩
    ·simp [e1]
    ·simp [e2]
    ·simp [m2]
    ·simp
    ·rw [hs,q6E p x _ hpx]
     have:=q2U p (t.mems.drop (i + 1))
     by_cases h1:idxI p (t.mems.drop (i + 1))=-1
     ·simp [h1]
     ·have h2:¬ idxI p (t.mems.drop (i + 1)) + 1=-1:=by omega
      rw [if_neg h1,if_neg h2,if_neg h1]
      omega
  ·have hlt':¬ (i:Int)<t.mems.length:=by omega
   simp [q2O,-Option.bind_some,-Int.toNat_lt,-List.map_map,List.range_succ,e2,m2,e6,hlt']
   rw [List.drop_eq_nil_of_le (by omega)] at hs
   exact hk _ _ (.inl ⟨rfl,hs⟩)
 ·have:=q2U p t.mems
  by_cases h1:idxI p t.mems=-1 <;> simp [h1]
 ·rcases h with ⟨rfl,h1⟩ | ⟨rfl,h0,h1,h2⟩
  ·simp [-Option.bind_some,-Int.toNat_lt,-List.map_map,List.range_succ,h1]
   rfl
  ·simp [-Option.bind_some,-Int.toNat_lt,-List.map_map,List.range_succ,h1,h2,h0,Int.max_eq_left h0]
theorem sym1_ev (x:Sym) (id:Int):evA 125 [.agg (symC x),.bp [.int .i64 id]] (.bool (decide (x.id=id))):=by
 refine q00 (c:=q2x) rfl rfl ?_
 simp [q2x,-Option.bind_some,-Int.toNat_lt,-List.map_map,List.range_succ,symC]
def symIx (l:List Sym) (id:Int):Int:=idxI (fun x=>decide (x.id=id)) l
def symA (l:List Sym) (id:Int):AV:=.tup [.int .i64 (max (symIx l id) 0),.bool (decide (0<=symIx l id))]
theorem sym_ev (t:Typ) (id:Int) (hl:t.syms.length<=9223372036854775807):evA 110 [.agg (typC t),.int .i64 id] (symA t.syms id):=by
 refine q00 (c:=q3x) rfl rfl ?_
 have h:=indexf_Sym_ev 125 [.bp [.int .i64 id]] t.syms (fun x=>decide (x.id=id)) hl (fun _ _=>rfl) (fun x _=>sym1_ev x id) t.sn
 simp only [evA] at h
 unfold symA symIx
 simp [q3x,-Option.bind_some,-Int.toNat_lt,-List.map_map,List.range_succ,typC,h]
theorem rsym_ev (t:Typ) (id:Int) (hl:t.syms.length<=9223372036854775807):evA 95 [.agg (typC t),.int .i64 id] (symA t.syms id):=by
 refine q00 (c:=q3S) rfl rfl ?_
 obtain ⟨p,hp⟩:∃ p:Sym->Bool,p=fun x=>decide (x.id=id):=⟨_,rfl⟩
 unfold symA symIx
 rw [<- hp]
 simp [q3S,-Option.bind_some,-Int.toNat_lt,-List.map_map,List.range_succ,typC]
 refine q0h t.syms.length (fun i s=>(s.env 1).v=.int .i64 id/\(s.env 2).v=.ptr 2 1 0/\s.mem 2 1=some (q12 t)/\(s.env 6).v=.int .i64 i/\idxI p t.syms=(if idxI p (t.syms.drop i)=-1 then -1 else idxI p (t.syms.drop i) + i))
  (fun e s=>(e=.exit 0/\idxI p t.syms=-1)\/(e=.ret/\0<=idxI p t.syms/\(s.env 4).v=.int .i64 (idxI p t.syms)/\(s.env 5).v=.bool true)) (fun i hi s k h ih hk=>?_) _ _ ?_ (fun e s h=>?_)
 ·obtain ⟨e1,e2,m2,e6,hs⟩:=h
  refine q04 ?_
  by_cases hlt:i<t.syms.length
  ·have hlt':(i:Int)<t.syms.length:=by omega
   have g1:(t.syms.map symC)[i]?=some (symC t.syms[i]):=by simp [hlt]
   have hw:=q0W (i:=i) (by omega)
   rw [List.drop_eq_getElem_cons hlt] at hs
   generalize t.syms[i]=x at *
   simp only [symC] at g1
   by_cases hx:x.id=id
   ·simp [q2M,-Option.bind_some,-Int.toNat_lt,-List.map_map,List.range_succ,e1,e2,m2,e6,hlt',g1,hx]
    have hpx:p x=true:=by rw [hp]; exact decide_eq_true hx
    refine hk _ _ (.inr ⟨rfl,?_,?_,?_⟩)
    ·rw [hs]; simp [idxI,hpx]
    ·simp [hs,idxI,hpx]
    ·simp
   ·have hpx:p x=false:=by rw [hp]; exact decide_eq_false hx
    simp [q2M,-Option.bind_some,-Int.toNat_lt,-List.map_map,List.range_succ,e1,e2,m2,e6,hlt',g1,hx,hw]
    refine ih hlt _ ⟨?_,?_,?_,?_,?_⟩
    ·simp [e1]
    ·simp [e2]
    ·simp [m2]
    ·simp
    ·rw [hs,q6E p x _ hpx]
     have:=q2U p (t.syms.drop (i + 1))
     by_cases h1:idxI p (t.syms.drop (i + 1))=-1
     ·simp [h1]
     ·have h2:¬ idxI p (t.syms.drop (i + 1)) + 1=-1:=by omega
      rw [if_neg h1,if_neg h2,if_neg h1]
      omega
  ·have hlt':¬ (i:Int)<t.syms.length:=by omega
   simp [q2M,-Option.bind_some,-Int.toNat_lt,-List.map_map,List.range_succ,e2,m2,e6,hlt']
   rw [List.drop_eq_nil_of_le (by omega)] at hs
   exact hk _ _ (.inl ⟨rfl,hs⟩)
 ·have:=q2U p t.syms
  by_cases h1:idxI p t.syms=-1 <;> simp [h1]
 ·rcases h with ⟨rfl,h1⟩ | ⟨rfl,h0,h1,h2⟩
  ·simp [-Option.bind_some,-Int.toNat_lt,-List.map_map,List.range_succ,h1]
   rfl
  ·simp [-Option.bind_some,-Int.toNat_lt,-List.map_map,List.range_succ,h1,h2,h0,Int.max_eq_left h0]
def zig (n:Int):Int:=if 0<=n then 2 * n else -2 * n - 1
def i64R (n:Int):Prop:=-9223372036854775808<=n/\n<=9223372036854775807
theorem q6X (n:Int) (h:0<=n/\n<18446744073709551616):IntKind.u64.wrap n=n:=by
 simp only [IntKind.wrap,IntKind.bits,IntKind.signed]
 simp
 omega
theorem xor_u64 (a b c:Int) (h:((BitVec.ofInt 64 a ^^^ BitVec.ofInt 64 b).toNat:Int)=c) (hc:0<=c/\c<18446744073709551616):binC .xor false (.int .u64 a) (.int .u64 b)=some (.int .u64 c):=by
 have:binC .xor false (.int .u64 a) (.int .u64 b)=some (.int .u64 (IntKind.u64.wrap ((BitVec.ofInt 64 a ^^^ BitVec.ofInt 64 b).toNat:Int))):=rfl
 rw [this,h,q6X _ hc]
theorem shl_u64 (a c:Int) (h:IntKind.u64.wrap (a * 2)=c):binC .shl false (.int .u64 a) (.int .u64 1)=some (.int .u64 c):=by
 have:binC .shl false (.int .u64 a) (.int .u64 1)=some (.int .u64 (IntKind.u64.wrap (a * 2))):=rfl
 rw [this,h]
theorem shr_63 (a c:Int) (h:a.fdiv 9223372036854775808=c):binC .shr false (.int .i64 a) (.int .u64 63)=some (.int .i64 c):=by
 have:binC .shr false (.int .i64 a) (.int .u64 63)=some (.int .i64 (a.fdiv 9223372036854775808)):=rfl
 rw [this,h]
theorem zig_ev (n:Int) (h:i64R n):evA 131 [.int .i64 n] (.int .u64 (zig n)):=by
 refine q00 (c:=q2B) rfl rfl ?_
 obtain ⟨h1,h2⟩:=h
 unfold zig
 by_cases h0:0<=n
 ·have w1:IntKind.u64.wrap n=n:=q6X _ (by omega)
  have w2:=shl_u64 n (2 * n) (by rw [q6X _ (by omega)]; omega)
  have w3:=shr_63 n 0 (by rw [Int.fdiv_eq_ediv_of_nonneg _ (by omega)]; omega)
  have w4:IntKind.u64.wrap 0=0:=q6X _ (by omega)
  have w5:=xor_u64 (2 * n) 0 (2 * n) (by rw [show BitVec.ofInt 64 0=0#64 from rfl,BitVec.xor_zero,BitVec.toNat_ofInt]; omega) (by omega)
  simp [q2B,-Option.bind_some,-Int.toNat_lt,-List.map_map,List.range_succ,-binC,w1,w2,w3,w4,w5,h0]
 ·have w1:IntKind.u64.wrap n=n + 18446744073709551616:=by
   simp only [IntKind.wrap,IntKind.bits,IntKind.signed]
   simp
   omega
  have w2:=shl_u64 (n + 18446744073709551616) (2 * n + 18446744073709551616) (by
   simp only [IntKind.wrap,IntKind.bits,IntKind.signed]
   simp
   omega)
  have w3:=shr_63 n (-1) (by rw [Int.fdiv_eq_ediv_of_nonneg _ (by omega)]; omega)
  have w4:IntKind.u64.wrap (-1)=18446744073709551615:=by decide +kernel
  have w5:=xor_u64 (2 * n + 18446744073709551616) 18446744073709551615 (-2 * n - 1) (by
   rw [show BitVec.ofInt 64 18446744073709551615=BitVec.allOnes 64 from by decide +kernel,BitVec.xor_allOnes,BitVec.toNat_not,BitVec.toNat_ofInt]
   omega) (by omega)
  simp [q2B,-Option.bind_some,-Int.toNat_lt,-List.map_map,List.range_succ,-binC,w1,w2,w3,w4,w5,h0]
theorem rzig_ev (n:Int) (h:i64R n):evA 120 [.int .i64 n] (.int .u64 (zig n)):=by
 refine q00 (c:=q30) rfl rfl ?_
 obtain ⟨h1,h2⟩:=h
 unfold zig
 by_cases h0:0<=n
 ·have w1:IntKind.u64.wrap n=n:=q6X _ (by omega)
  have w2:IntKind.u64.wrap (2 * n)=2 * n:=q6X _ (by omega)
  simp [q30,-Option.bind_some,-Int.toNat_lt,-List.map_map,List.range_succ,h0,w1,w2]
 ·have w1:IntKind.i64.wrap (n + 1)=n + 1:=IntWalk.i64_in _ (by omega)
  have w2:IntKind.i64.wrap (0 - (n + 1))=-n - 1:=by rw [IntWalk.i64_in _ (by omega)]; omega
  have w2':IntKind.i64.wrap (-(n + 1))=-n - 1:=by rw [IntWalk.i64_in _ (by omega)]; omega
  have w3:IntKind.u64.wrap (-n - 1)=-n - 1:=q6X _ (by omega)
  have w4:IntKind.u64.wrap (2 * (-n - 1))=-2 * n - 2:=by rw [q6X _ (by omega)]; omega
  have w5:IntKind.u64.wrap (-2 * n - 2 + 1)=-2 * n - 1:=by rw [q6X _ (by omega)]; omega
  have w6:IntKind.u64.wrap (-(2 * n) - 2 + 1)=-(2 * n) - 1:=by rw [q6X _ (by omega)]; omega
  simp [q30,-Option.bind_some,-Int.toNat_lt,-List.map_map,List.range_succ,h0,w1,w2,w2',w3,w4,w5,w6]
def cmpI (a b:Int):Int:=if a<b then -1 else if b<a then 1 else 0
def lessS (a b:ByteArray):Bool:=Op.bytesLess a.toList b.toList
def cmpS (a b:ByteArray):Int:=if a.size<b.size then -1 else if b.size<a.size then 1 else if a=b then 0 else if lessS a b=true then -1 else 1
def vcmp (a b:Vl):Int :=
 if a.kind≠b.kind then 0
 else if a.kind=1 then (if a.b=b.b then 0 else if b.b=true then -1 else 1)
 else if a.kind=2 then cmpI (zig a.i) (zig b.i)
 else if a.kind=3 then cmpS a.s b.s
 else if a.kind=4 then cmpI a.id b.id
 else 0
theorem order_ev (l e:Bool):evA 119 [.bool l,.bool e] (.int .i64 (if e=true then 0 else if l=true then -1 else 1)):=by
 refine q00 (c:=q4C) rfl rfl ?_
 cases l <;> cases e <;> simp [q4C,-Option.bind_some,-Int.toNat_lt,-List.map_map,List.range_succ]
theorem nan_u (n:Int):evA 148 [.int .u64 n] (.bool false):=by
 refine q00 (c:=q2z) rfl rfl ?_
 simp [q2z,-Option.bind_some,-Int.toNat_lt,-List.map_map,List.range_succ]
theorem nan_i (n:Int):evA 149 [.int .i64 n] (.bool false):=by
 refine q00 (c:=q3z) rfl rfl ?_
 simp [q3z,-Option.bind_some,-Int.toNat_lt,-List.map_map,List.range_succ]
theorem nan_s (s:ByteArray):evA 150 [.str s] (.bool false):=by
 refine q00 (c:=q2u) rfl rfl ?_
 simp [q2u,-Option.bind_some,-Int.toNat_lt,-List.map_map,List.range_succ]
theorem cmpu_ev (a b:Int):evA 130 [.int .u64 a,.int .u64 b] (.int .i64 (cmpI a b)):=by
 have h1:=nan_u a
 have h2:=nan_u b
 simp only [evA] at h1 h2
 refine q00 (c:=q1A) rfl rfl ?_
 unfold cmpI
 by_cases c1:a<b
 ·simp [q1A,-Option.bind_some,-Int.toNat_lt,-List.map_map,List.range_succ,h1,h2,c1]
 ·by_cases c2:b<a <;> simp [q1A,-Option.bind_some,-Int.toNat_lt,-List.map_map,List.range_succ,h1,h2,c1,c2]
theorem cmpi_ev (a b:Int):evA 133 [.int .i64 a,.int .i64 b] (.int .i64 (cmpI a b)):=by
 have h1:=nan_i a
 have h2:=nan_i b
 simp only [evA] at h1 h2
 refine q00 (c:=q21) rfl rfl ?_
 unfold cmpI
 by_cases c1:a<b
 ·simp [q21,-Option.bind_some,-Int.toNat_lt,-List.map_map,List.range_succ,h1,h2,c1]
 ·by_cases c2:b<a <;> simp [q21,-Option.bind_some,-Int.toNat_lt,-List.map_map,List.range_succ,h1,h2,c1,c2]
theorem less_irr:∀ a:List UInt8,Op.bytesLess a a=false
 | []=>rfl
 | x :: r=>by simp [Op.bytesLess,less_irr r]
def cmpT (a b:ByteArray):Int:=if lessS a b=true then -1 else if a=b then 0 else 1
theorem cmps_ev (a b:ByteArray):evA 134 [.str a,.str b] (.int .i64 (cmpT a b)):=by
 have h1:=nan_s a
 have h2:=nan_s b
 simp only [evA] at h1 h2
 refine q00 (c:=q1e) rfl rfl ?_
 unfold cmpT lessS
 cases c1:Op.bytesLess a.toList b.toList with
 | true=>simp [q1e,-Option.bind_some,-Int.toNat_lt,-List.map_map,List.range_succ,h1,h2,c1]
 | false =>
  by_cases c2:a=b
  ·subst c2
   simp [q1e,-Option.bind_some,-Int.toNat_lt,-List.map_map,List.range_succ,h1,c1]
  ·simp [q1e,-Option.bind_some,-Int.toNat_lt,-List.map_map,List.range_succ,h1,h2,c1,c2]
theorem or_ev (a b:Int):evA 132 [.sl false [[.int .i64 a],[.int .i64 b]]] (.int .i64 (if a≠0 then a else b)):=by
 obtain ⟨r0,hr⟩:∃ r0,r0=if a≠0 then a else b:=⟨_,rfl⟩
 rw [<- hr]
 refine q00 (c:=q58) rfl rfl ?_
 have w1:IntKind.i64.wrap 1=1:=by decide +kernel
 have w2:IntKind.i64.wrap 2=2:=by decide +kernel
 simp [q58,-Option.bind_some,-Int.toNat_lt,-List.map_map,List.range_succ]
 refine q0h 2 (fun i s=>(s.env 3).v=.int .i64 0/\(s.env 6).v=.sl false [[.int .i64 a],[.int .i64 b]]/\(s.env 7).v=.int .i64 2/\(s.env 8).v=.int .i64 i/\(0<i->a=0)/\(1<i->b=0))
  (fun e s=>(e=.exit 0/\a=0/\b=0/\(s.env 3).v=.int .i64 0)\/(e=.ret/\(s.env 2).v=.int .i64 r0)) (fun i hi s k h ih hk=>?_) _ _ ?_ (fun e s h=>?_)
 ·obtain ⟨e3,e6,e7,e8,ha,hb⟩:=h
  refine q04 ?_
  match i,hi with
  | 0,_ =>
   by_cases h0:a=0
   ·simp [q22,-Option.bind_some,-Int.toNat_lt,-List.map_map,List.range_succ,e3,e6,e7,e8,h0,w1]
    refine ih (by omega) _ ⟨?_,?_,?_,?_,?_,?_⟩ <;> simp [e3,e6,e7,h0]
   ·simp [q22,-Option.bind_some,-Int.toNat_lt,-List.map_map,List.range_succ,e3,e6,e7,e8,h0]
    exact hk _ _ (.inr ⟨rfl,by simp [hr,h0]⟩)
  | 1,_ =>
   have ha:=ha (by omega)
   by_cases h0:b=0
   ·simp [q22,-Option.bind_some,-Int.toNat_lt,-List.map_map,List.range_succ,e3,e6,e7,e8,h0,w2]
    refine ih (by omega) _ ⟨?_,?_,?_,?_,?_,?_⟩ <;> simp [e3,e6,e7,h0,ha]
   ·simp [q22,-Option.bind_some,-Int.toNat_lt,-List.map_map,List.range_succ,e3,e6,e7,e8,h0]
    exact hk _ _ (.inr ⟨rfl,by simp [hr,ha]⟩)
  | 2,_ =>
   simp [q22,-Option.bind_some,-Int.toNat_lt,-List.map_map,List.range_succ,e3,e6,e7,e8]
   exact hk _ _ (.inl ⟨rfl,ha (by omega),hb (by omega),by simp [e3]⟩)
 ·simp
 ·rcases h with ⟨rfl,h1,h2,h3⟩ | ⟨rfl,h1⟩
  ·simp [-Option.bind_some,-Int.toNat_lt,-List.map_map,List.range_succ,hr,h1,h2,h3]
  ·simp [-Option.bind_some,-Int.toNat_lt,-List.map_map,List.range_succ,h1]
theorem cmpS_or (a b:ByteArray):(if cmpI a.size b.size≠0 then cmpI a.size b.size else cmpT a b)=cmpS a b:=by
 unfold cmpS cmpI cmpT
 by_cases h1:a.size<b.size
 ·have h1':(a.size:Int)<b.size:=by omega
  simp [h1,h1']
 ·have h1':¬ (a.size:Int)<b.size:=by omega
  by_cases h2:b.size<a.size
  ·have h2':(b.size:Int)<a.size:=by omega
   simp [h1,h1',h2,h2']
  ·have h2':¬ (b.size:Int)<a.size:=by omega
   simp only [h1,h1',h2,h2',if_false,ne_eq,not_true_eq_false]
   by_cases h3:a=b
   ·subst h3
    simp [lessS,less_irr]
   ·simp [h3]
theorem vcmp_ev (a b:Vl) (ha:i64R a.i) (hb:i64R b.i):evA 114 [.agg (valC a),.agg (valC b)] (.int .i64 (vcmp a b)):=by
 refine q00 (c:=q0Y) rfl rfl ?_
 have z1:=zig_ev a.i ha
 have z2:=zig_ev b.i hb
 have q1:=cmpu_ev (zig a.i) (zig b.i)
 have q2:=cmpi_ev a.s.size b.s.size
 have q3:=cmps_ev a.s b.s
 have q4:=cmpi_ev a.id b.id
 have q5:=or_ev (cmpI a.s.size b.s.size) (cmpT a.s b.s)
 rw [cmpS_or] at q5
 simp only [evA] at z1 z2 q1 q2 q3 q4 q5
 rw [q03,q03]
 unfold vcmp
 by_cases h0:a.kind=b.kind
 ·rw [h0]
  by_cases h1:b.kind=1
  ·by_cases h2:a.b=b.b
   ·simp [q0Y,-Option.bind_some,-Int.toNat_lt,-List.map_map,List.range_succ,h1,h2]
   ·cases h3:b.b <;> rw [h3] at h2 <;> simp at h2 <;> simp [q0Y,-Option.bind_some,-Int.toNat_lt,-List.map_map,List.range_succ,h1,h2,h3]
  ·by_cases h2:b.kind=2
   ·simp [q0Y,-Option.bind_some,-Int.toNat_lt,-List.map_map,List.range_succ,h2,z1,z2,q1]
   ·by_cases h3:b.kind=3
    ·simp [q0Y,-Option.bind_some,-Int.toNat_lt,-List.map_map,List.range_succ,h3,q2,q3,q5]
    ·by_cases h4:b.kind=4
     ·simp [q0Y,-Option.bind_some,-Int.toNat_lt,-List.map_map,List.range_succ,h4,q4]
     ·simp [q0Y,-Option.bind_some,-Int.toNat_lt,-List.map_map,List.range_succ,h1,h2,h3,h4]
 ·simp [q0Y,-Option.bind_some,-Int.toNat_lt,-List.map_map,List.range_succ,h0]
theorem zig_inj {a b:Int} (h:zig a=zig b):a=b:=by
 unfold zig at h
 split at h <;> split at h <;> omega
theorem rvcmp_ev (a b:Vl) (ha:i64R a.i) (hb:i64R b.i):evA 100 [.agg (valC a),.agg (valC b)] (.int .i64 (vcmp a b)):=by
 refine q00 (c:=q0j) rfl rfl ?_
 have z1:=rzig_ev a.i ha
 have z2:=rzig_ev b.i hb
 have q1:=fun l e=>order_ev l e
 simp only [evA] at z1 z2 q1
 rw [q03,q03]
 unfold vcmp
 by_cases h0:a.kind=b.kind
 ·rw [h0]
  by_cases h1:b.kind=1
  ·by_cases h2:a.b=b.b
   ·simp [q0j,-Option.bind_some,-Int.toNat_lt,-List.map_map,List.range_succ,h1,h2,q1]
   ·cases h3:b.b <;> rw [h3] at h2 <;> simp at h2 <;> simp [q0j,-Option.bind_some,-Int.toNat_lt,-List.map_map,List.range_succ,h1,h2,h3,q1]
  ·by_cases h2:b.kind=2
   ·by_cases h5:a.i=b.i
    ·simp [q0j,-Option.bind_some,-Int.toNat_lt,-List.map_map,List.range_succ,h2,h5,z2,q1,cmpI]
    ·have h6:zig a.i≠zig b.i:=fun h=>h5 (zig_inj h)
     by_cases h7:zig a.i<zig b.i
     ·simp [q0j,-Option.bind_some,-Int.toNat_lt,-List.map_map,List.range_succ,h2,h5,z1,z2,q1,cmpI,h7]
     ·have h8:zig b.i<zig a.i:=by omega
      simp [q0j,-Option.bind_some,-Int.toNat_lt,-List.map_map,List.range_succ,h2,h5,z1,z2,q1,cmpI,h7,h8]
   ·by_cases h3:b.kind=3
    ·by_cases h5:a.s.size=b.s.size
     ·have h6:¬ (a.s.size:Int)≠b.s.size:=by omega
      by_cases h7:a.s=b.s
      ·simp [q0j,-Option.bind_some,-Int.toNat_lt,-List.map_map,List.range_succ,h3,h7,q1,cmpS]
      ·cases h8:lessS a.s b.s with
       | true =>
        have h9:=h8
        unfold lessS at h9
        simp [q0j,-Option.bind_some,-Int.toNat_lt,-List.map_map,List.range_succ,h3,h5,h6,h7,q1,cmpS,h8,h9]
       | false =>
        have h9:=h8
        unfold lessS at h9
        simp [q0j,-Option.bind_some,-Int.toNat_lt,-List.map_map,List.range_succ,h3,h5,h6,h7,q1,cmpS,h8,h9]
     ·have h6:¬ (a.s.size:Int)=b.s.size:=by omega
      by_cases h7:a.s.size<b.s.size
      ·have h8:(a.s.size:Int)<b.s.size:=by omega
       simp [q0j,-Option.bind_some,-Int.toNat_lt,-List.map_map,List.range_succ,h3,h6,h7,h8,q1,cmpS]
      ·have h8:¬ (a.s.size:Int)<b.s.size:=by omega
       have h9:b.s.size<a.s.size:=by omega
       simp [q0j,-Option.bind_some,-Int.toNat_lt,-List.map_map,List.range_succ,h3,h6,h7,h8,h9,q1,cmpS]
    ·by_cases h4:b.kind=4
     ·by_cases h5:a.id=b.id
      ·simp [q0j,-Option.bind_some,-Int.toNat_lt,-List.map_map,List.range_succ,h4,h5,q1,cmpI]
      ·by_cases h7:a.id<b.id
       ·simp [q0j,-Option.bind_some,-Int.toNat_lt,-List.map_map,List.range_succ,h4,h5,h7,q1,cmpI]
       ·have h8:b.id<a.id:=by omega
        simp [q0j,-Option.bind_some,-Int.toNat_lt,-List.map_map,List.range_succ,h4,h5,h7,h8,q1,cmpI]
     ·simp [q0j,-Option.bind_some,-Int.toNat_lt,-List.map_map,List.range_succ,h1,h2,h3,h4]
 ·simp [q0j,-Option.bind_some,-Int.toNat_lt,-List.map_map,List.range_succ,h0]
def q2K (v:Vl):Bool :=
 (decide (v.kind=1)||!v.b)&&((decide (v.kind=2)||decide (v.i=0))&&((decide (v.kind=3)||decide (v.s=⟨#[]⟩))&&((decide (v.kind=4)||decide (v.kind=6)||decide (v.id=0))&&((decide (v.kind=8)||v.keys.isEmpty)&&((decide (5<=v.kind)||v.items.isEmpty)&&(decide (v.kind=5)||decide (v.kind=6)||v.rest.isEmpty))))))
def Vl.bare (v:Vl):Vl:=.mk v.kind (if v.kind=1 then v.b else false) (if v.kind=2 then v.i else 0) (if v.kind=3 then v.s else ⟨#[]⟩) (if v.kind=4\/v.kind=6 then v.id else 0)
 (if v.kind=8 then v.kn else true) (if v.kind=8 then v.keys else []) (if 5<=v.kind then v.xn else true) (if 5<=v.kind then v.items else []) (if v.kind=5\/v.kind=6 then v.rn else true) (if v.kind=5\/v.kind=6 then v.rest else [])
theorem bare_ev1 (v:Vl) (h:v.kind=1):evA 123 [.agg (valC v)] (.agg (valC v.bare)):=by
 refine q00 (c:=q0q) rfl rfl ?_
 obtain ⟨k,b,i,s,d,kn,ks,xn,xs,rn,rs⟩:=v
 have h:k=1:=h
 subst h
 rw [q03,q03]
 simp [q0q,-Option.bind_some,-Int.toNat_lt,-List.map_map,List.range_succ,Vl.bare,Vl.kind,Vl.b,Vl.i,Vl.s,Vl.id,Vl.kn,Vl.keys,Vl.xn,Vl.items,Vl.rn,Vl.rest]
theorem bare_ev2 (v:Vl) (h:v.kind=2):evA 123 [.agg (valC v)] (.agg (valC v.bare)):=by
 refine q00 (c:=q0q) rfl rfl ?_
 obtain ⟨k,b,i,s,d,kn,ks,xn,xs,rn,rs⟩:=v
 have h:k=2:=h
 subst h
 rw [q03,q03]
 simp [q0q,-Option.bind_some,-Int.toNat_lt,-List.map_map,List.range_succ,Vl.bare,Vl.kind,Vl.b,Vl.i,Vl.s,Vl.id,Vl.kn,Vl.keys,Vl.xn,Vl.items,Vl.rn,Vl.rest]
theorem bare_ev3 (v:Vl) (h:v.kind=3):evA 123 [.agg (valC v)] (.agg (valC v.bare)):=by
 refine q00 (c:=q0q) rfl rfl ?_
 obtain ⟨k,b,i,s,d,kn,ks,xn,xs,rn,rs⟩:=v
 have h:k=3:=h
 subst h
 rw [q03,q03]
 simp [q0q,-Option.bind_some,-Int.toNat_lt,-List.map_map,List.range_succ,Vl.bare,Vl.kind,Vl.b,Vl.i,Vl.s,Vl.id,Vl.kn,Vl.keys,Vl.xn,Vl.items,Vl.rn,Vl.rest]
theorem bare_ev4 (v:Vl) (h:v.kind=4):evA 123 [.agg (valC v)] (.agg (valC v.bare)):=by
 refine q00 (c:=q0q) rfl rfl ?_
 obtain ⟨k,b,i,s,d,kn,ks,xn,xs,rn,rs⟩:=v
 have h:k=4:=h
 subst h
 rw [q03,q03]
 simp [q0q,-Option.bind_some,-Int.toNat_lt,-List.map_map,List.range_succ,Vl.bare,Vl.kind,Vl.b,Vl.i,Vl.s,Vl.id,Vl.kn,Vl.keys,Vl.xn,Vl.items,Vl.rn,Vl.rest]
theorem bare_ev5 (v:Vl) (h:v.kind=5):evA 123 [.agg (valC v)] (.agg (valC v.bare)):=by
 refine q00 (c:=q0q) rfl rfl ?_
 obtain ⟨k,b,i,s,d,kn,ks,xn,xs,rn,rs⟩:=v
 have h:k=5:=h
 subst h
 rw [q03,q03]
 simp [q0q,-Option.bind_some,-Int.toNat_lt,-List.map_map,List.range_succ,Vl.bare,Vl.kind,Vl.b,Vl.i,Vl.s,Vl.id,Vl.kn,Vl.keys,Vl.xn,Vl.items,Vl.rn,Vl.rest]
theorem bare_ev6 (v:Vl) (h:v.kind=6):evA 123 [.agg (valC v)] (.agg (valC v.bare)):=by
 refine q00 (c:=q0q) rfl rfl ?_
 obtain ⟨k,b,i,s,d,kn,ks,xn,xs,rn,rs⟩:=v
 have h:k=6:=h
 subst h
 rw [q03,q03]
 simp [q0q,-Option.bind_some,-Int.toNat_lt,-List.map_map,List.range_succ,Vl.bare,Vl.kind,Vl.b,Vl.i,Vl.s,Vl.id,Vl.kn,Vl.keys,Vl.xn,Vl.items,Vl.rn,Vl.rest]
theorem bare_ev7 (v:Vl) (h:v.kind=7):evA 123 [.agg (valC v)] (.agg (valC v.bare)):=by
 refine q00 (c:=q0q) rfl rfl ?_
 obtain ⟨k,b,i,s,d,kn,ks,xn,xs,rn,rs⟩:=v
 have h:k=7:=h
 subst h
 rw [q03,q03]
 simp [q0q,-Option.bind_some,-Int.toNat_lt,-List.map_map,List.range_succ,Vl.bare,Vl.kind,Vl.b,Vl.i,Vl.s,Vl.id,Vl.kn,Vl.keys,Vl.xn,Vl.items,Vl.rn,Vl.rest]
theorem bare_ev8 (v:Vl) (h:v.kind=8):evA 123 [.agg (valC v)] (.agg (valC v.bare)):=by
 refine q00 (c:=q0q) rfl rfl ?_
 obtain ⟨k,b,i,s,d,kn,ks,xn,xs,rn,rs⟩:=v
 have h:k=8:=h
 subst h
 rw [q03,q03]
 simp [q0q,-Option.bind_some,-Int.toNat_lt,-List.map_map,List.range_succ,Vl.bare,Vl.kind,Vl.b,Vl.i,Vl.s,Vl.id,Vl.kn,Vl.keys,Vl.xn,Vl.items,Vl.rn,Vl.rest]
theorem bare_ev9 (v:Vl) (h:v.kind=9):evA 123 [.agg (valC v)] (.agg (valC v.bare)):=by
 refine q00 (c:=q0q) rfl rfl ?_
 obtain ⟨k,b,i,s,d,kn,ks,xn,xs,rn,rs⟩:=v
 have h:k=9:=h
 subst h
 rw [q03,q03]
 simp [q0q,-Option.bind_some,-Int.toNat_lt,-List.map_map,List.range_succ,Vl.bare,Vl.kind,Vl.b,Vl.i,Vl.s,Vl.id,Vl.kn,Vl.keys,Vl.xn,Vl.items,Vl.rn,Vl.rest]
theorem bare_ev (v:Vl) (h:1<=v.kind/\v.kind<=9):evA 123 [.agg (valC v)] (.agg (valC v.bare)):=by
 rcases q8O v.kind with e | e | e | e | e | e | e | e | e | e
 ·exact bare_ev1 v e
 ·exact bare_ev2 v e
 ·exact bare_ev3 v e
 ·exact bare_ev4 v e
 ·exact bare_ev5 v e
 ·exact bare_ev6 v e
 ·exact bare_ev7 v e
 ·exact bare_ev8 v e
 ·exact bare_ev9 v e
 ·exact absurd h e
theorem proper_ev1 (v w:Vl) (hb:evA 123 [.agg (valC v)] (.agg (valC w))):evA 109 [.agg (valC v)] (.bool ((v.b == w.b)&&(decide (v.i=w.i)&&(decide (v.s=w.s)&&(decide (v.id=w.id)&&(decide (v.keys.length=w.keys.length)&&(decide (v.items.length=w.items.length)&&decide (v.rest.length=w.rest.length)))))))):=by
 refine q00 (c:=q0Z) rfl rfl ?_
 rw [q03,q03] at hb
 rw [q03]
 simp only [evA] at hb
 by_cases h1:v.b=w.b
 ·by_cases h2:v.i=w.i
  ·by_cases h3:v.s=w.s
   ·by_cases h4:v.id=w.id
    ·by_cases h5:v.keys.length=w.keys.length
     ·by_cases h6:v.items.length=w.items.length
      ·by_cases h7:v.rest.length=w.rest.length
       ·simp [q0Z,-Option.bind_some,-Int.toNat_lt,-List.map_map,List.range_succ,hb,h1.symm,h2.symm,h3.symm,h4.symm,h5,h6,h7]
       ·have h7':¬ (v.rest.length:Int)=w.rest.length:=by omega
        simp [q0Z,-Option.bind_some,-Int.toNat_lt,-List.map_map,List.range_succ,hb,h1.symm,h2.symm,h3.symm,h4.symm,h5,h6,h7,h7']
      ·have h6':¬ (v.items.length:Int)=w.items.length:=by omega
       simp [q0Z,-Option.bind_some,-Int.toNat_lt,-List.map_map,List.range_succ,hb,h1.symm,h2.symm,h3.symm,h4.symm,h5,h6,h6']
     ·have h5':¬ (v.keys.length:Int)=w.keys.length:=by omega
      simp [q0Z,-Option.bind_some,-Int.toNat_lt,-List.map_map,List.range_succ,hb,h1.symm,h2.symm,h3.symm,h4.symm,h5,h5']
    ·simp [q0Z,-Option.bind_some,-Int.toNat_lt,-List.map_map,List.range_succ,hb,h1.symm,h2.symm,h3.symm,h4]
   ·simp [q0Z,-Option.bind_some,-Int.toNat_lt,-List.map_map,List.range_succ,hb,h1.symm,h2.symm,h3]
  ·simp [q0Z,-Option.bind_some,-Int.toNat_lt,-List.map_map,List.range_succ,hb,h1.symm,h2]
 ·simp [q0Z,-Option.bind_some,-Int.toNat_lt,-List.map_map,List.range_succ,hb,h1]
theorem zero_bare {α β:Type} (k:Int) (h:1<=k/\k<=9) (b:Bool) (i:Int) (s:ByteArray) (d:Int) (ks xs:List α) (rs:List β) :
  ((decide (k=1)||!b)&&((decide (k=2)||decide (i=0))&&((decide (k=3)||decide (s=⟨#[]⟩))&&((decide (k=4)||decide (k=6)||decide (d=0))&&((decide (k=8)||ks.isEmpty)&&((decide (5<=k)||xs.isEmpty)&&(decide (k=5)||decide (k=6)||rs.isEmpty))))))) =
  ((b == (if k=1 then b else false))&&(decide (i=(if k=2 then i else 0))&&(decide (s=(if k=3 then s else ⟨#[]⟩))&&(decide (d=(if k=4\/k=6 then d else 0))&&(decide (ks.length=(if k=8 then ks else []).length)&&(decide (xs.length=(if 5<=k then xs else []).length)&&decide (rs.length=(if k=5\/k=6 then rs else []).length))))))):=by
 rcases q8O k with e | e | e | e | e | e | e | e | e | e
 all_goals first | exact absurd h e | skip
 all_goals cases b <;> cases ks <;> cases xs <;> cases rs <;> simp [e]
theorem proper_ev (v:Vl) (h:1<=v.kind/\v.kind<=9):evA 109 [.agg (valC v)] (.bool (q2K v)):=by
 have r:=proper_ev1 v v.bare (bare_ev v h)
 have e:=zero_bare v.kind h v.b v.i v.s v.id v.keys v.items v.rest
 unfold q2K
 rw [e]
 exact r
section
def ascV:List Vl->Bool
 | []=>true
 | [_]=>true
 | a :: b :: r=>decide (vcmp a b<0)&&ascV (b :: r)
def q4n (f:Int->Vl->Bool):List Mem->List Vl->Bool
 | m :: r,v :: q=>f m.ty v&&q4n f r q
 | _,_=>true
def q4u (f:Int->Vl->Bool) (m:Option Mem) (known re:Bool):List Vl->Bool
 | [u]=>(match m with
  | some m=>known&&re&&f m.ty u
  | none=>false)
 | _=>false
theorem q8L (f:Int->Vl->Bool) (m:Option Mem) (a b:Bool) (l:List Vl) (h:¬ l.length=1):q4u f m a b l=false:=by
 match l,h with
 | [],_=>rfl
 | [_],h=>exact absurd rfl h
 | _ :: _ :: _,_=>rfl
theorem unionFit_no (f:Int->Vl->Bool) (m:Option Mem) (b:Bool) (l:List Vl):q4u f m false b l=false:=by
 match l with
 | []=>rfl
 | [_]=>cases m <;> rfl
 | _ :: _ :: _=>rfl
theorem unionFit_re (f:Int->Vl->Bool) (m:Option Mem) (a:Bool) (l:List Vl):q4u f m a false l=false:=by
 match l with
 | []=>rfl
 | [_]=>cases m <;> cases a <;> rfl
 | _ :: _ :: _=>rfl
def fitK (f:Int->Vl->Bool) (x:Typ) (v:Vl):Bool :=
 if x.kind=1 then true
 else if x.kind=2 then decide (x.low<=v.i)&&decide (v.i<=x.high)
 else if x.kind=3 then decide ((v.s.size:Int)<=x.max)
 else if x.kind=4 then decide (0<=symIx x.syms v.id)
 else if x.kind=5 then decide (v.items.length=x.mems.length)&&v.rest.isEmpty&&q4n f x.mems v.items
 else if x.kind=6 then q4u f x.mems[(q5u x.mems v.id).toNat]? (decide (0<=q5u x.mems v.id)) v.rest.isEmpty v.items
 else if x.kind=7 then decide ((v.items.length:Int)<=x.max)&&v.items.all (f x.elem)
 else if x.kind=8 then decide ((v.keys.length:Int)<=x.max)&&decide (v.items.length=v.keys.length)&&v.keys.all (f x.key)&&ascV v.keys&&v.items.all (f x.elem)
 else decide (v.items.length<=1)&&v.items.all (f x.elem)
def fitN (S:List Typ):Nat->Int->Vl->Bool
 | 0,_,_=>false
 | n + 1,t,v=>!q0D S.length t&&(match S[t.toNat]? with
  | some x=>decide (v.kind=x.kind)&&q2K v&&fitK (fitN S n) x v
  | none=>false)
mutual
/-- numbers that occur -/
def Vl.i64:Vl->Prop
 | .mk _ _ i _ _ _ ks _ xs _ _=>i64R i/\Vl.i64s ks/\Vl.i64s xs
def Vl.i64s:List Vl->Prop
 | []=>True
 | v :: r=>Vl.i64 v/\Vl.i64s r
end
theorem Vl.i64s_iff:∀ l:List Vl,Vl.i64s l ↔ ∀ v∈l,v.i64
 | []=>by simp [Vl.i64s]
 | v :: r=>by simp [Vl.i64s,Vl.i64s_iff r]
theorem Vl.i64_def (v:Vl):v.i64 ↔ i64R v.i/\(∀ x∈v.keys,x.i64)/\∀ x∈v.items,x.i64:=by
 cases v
 rw [Vl.i64,Vl.i64s_iff,Vl.i64s_iff]
 rfl
section
variable (sn:Bool) (S:List Typ) (t:Int) (f:Vl->Bool)
abbrev schA (sn:Bool) (S:List Typ):AV:=.agg [.sl sn (S.map typC)]
theorem each1_ev (v:Vl) (h:evA 82 [schA sn S,.int .i64 t,.agg (valC v),.bool true] (.bool (f v))):evA 129 [.agg (valC v),.bp [.sl sn (S.map typC)],.bp [.int .i64 t],.bp [.bool true]] (.bool (!f v)):=by
 refine q00 (c:=q3n) rfl rfl ?_
 simp only [evA,q03] at h ⊢
 simp [q3n,-Option.bind_some,-Int.toNat_lt,-List.map_map,List.range_succ,h]
theorem any_not {α:Type} (f:α->Bool) (l:List α):(!l.any fun x=>!f x)=l.all f:=by
 induction l with
 | nil=>rfl
 | cons x r ih=>simp only [List.any_cons,List.all_cons,Bool.not_or,Bool.not_not,ih]
theorem each_ev (l:List Vl) (hl:l.length<=9223372036854775807) (b:Bool) (h:∀ v∈l,evA 82 [schA sn S,.int .i64 t,.agg (valC v),.bool true] (.bool (f v))):evA 113 [schA sn S,.int .i64 t,.sl b (l.map valC),.bool true] (.bool (l.all f)):=by
 have hi:=indexf_Vl_ev 129 [.bp [.sl sn (S.map typC)],.bp [.int .i64 t],.bp [.bool true]] l (fun v=>!f v) hl (fun _ _=>rfl) (fun v hv=>each1_ev sn S t f v (h v hv)) b
 have hc:evA 128 [.sl b (l.map valC),.fn 129 [.bp [.sl sn (S.map typC)],.bp [.int .i64 t],.bp [.bool true]]] (.bool (decide (0<=idxI (fun v=>!f v) l))):=by
  refine q00 (c:=q0T) rfl rfl ?_
  simp only [evA] at hi
  simp [q0T,-Option.bind_some,-Int.toNat_lt,-List.map_map,List.range_succ,hi]
 rw [<- any_not,<- idxI_any]
 refine q00 (c:=q57) rfl rfl ?_
 simp only [evA] at hc
 simp [q57,-Option.bind_some,-Int.toNat_lt,-List.map_map,List.range_succ,hc]
theorem all_ev (l:List Vl) (hl:l.length<=9223372036854775807) (b:Bool) (h:∀ v∈l,evA 77 [schA sn S,.int .i64 t,.agg (valC v),.bool true] (.bool (f v))):evA 99 [schA sn S,.int .i64 t,.sl b (l.map valC),.bool true] (.bool (l.all f)):=by
 refine q00 (c:=q5O) rfl rfl ?_
 simp [q5O,-Option.bind_some,-Int.toNat_lt,-List.map_map,List.range_succ]
 refine q0h l.length (fun i s=>(s.env 1).v=.int .i64 t/\(s.env 2).v=.sl b (l.map valC)/\(s.env 3).v=.bool true/\(s.env 4).v=.ptr 4 1 0/\s.mem 4 1=some [⟨.sl sn (S.map typC),.no⟩]/\(s.env 9).v=.int .i64 i/\(l.drop i).all f=l.all f)
  (fun e s=>(e=.exit 0/\l.all f=true)\/(e=.ret/\l.all f=false/\(s.env 8).v=.bool false)) (fun i hi s k h' ih hk=>?_) _ _ ?_ (fun e s h=>?_)
 ·obtain ⟨e1,e2,e3,e4,m4,e9,hs⟩:=h'
  refine q04 ?_
  by_cases hlt:i<l.length
  ·have hlt':(i:Int)<l.length:=by omega
   have g1:(l.map valC)[i]?=some (valC l[i]):=by simp [hlt]
   have hw:=q0W (i:=i) (by omega)
   have hx:=h l[i] (List.getElem_mem _)
   rw [List.drop_eq_getElem_cons hlt,List.all_cons] at hs
   generalize l[i]=x at *
   simp only [evA,q03] at g1 hx
   cases hp:f x with
   | true =>
    rw [hp] at hx hs
    simp [q3T,-Option.bind_some,-Int.toNat_lt,-List.map_map,List.range_succ,e1,e2,e3,e4,m4,e9,hlt',g1,hx,hw]
    refine ih hlt _ ⟨?_,?_,?_,?_,?_,?_,by simpa using hs⟩ <;> simp [e1,e2,e3,e4,m4]
   | false =>
    rw [hp] at hx hs
    simp [q3T,-Option.bind_some,-Int.toNat_lt,-List.map_map,List.range_succ,e1,e2,e3,e4,m4,e9,hlt',g1,hx]
    exact hk _ _ (.inr ⟨rfl,by rw [<- hs]; rfl,by simp⟩)
  ·have hlt':¬ (i:Int)<l.length:=by omega
   simp [q3T,-Option.bind_some,-Int.toNat_lt,-List.map_map,List.range_succ,e2,e9,hlt']
   rw [List.drop_eq_nil_of_le (by omega)] at hs
   exact hk _ _ (.inl ⟨rfl,hs.symm⟩)
 ·simp
 ·rcases h with ⟨rfl,h1⟩ | ⟨rfl,h1,h2⟩
  ·simp [-Option.bind_some,-Int.toNat_lt,-List.map_map,List.range_succ,h1]
  ·simp [-Option.bind_some,-Int.toNat_lt,-List.map_map,List.range_succ,h1,h2]
end
end
theorem fit_ev1 (sn:Bool) (S:List Typ) (t:Int) (x:Typ) (v:Vl) (f:Int->Vl->Bool) (h0:0<=t) (ht1:¬ (S.length:Int)<=t) (g:(S.map typC)[t.toNat]?=some (typC x)) (hk:x.kind=1) (hv:v.kind=1) (hp:evA 94 [.agg (valC v)] (.bool true)) (hr:v.rest=[]):evA 77 [schA sn S,.int .i64 t,.agg (valC v),.bool true] (.bool (true)):=by
 have ht0:¬ t<0:=by omega
 simp only [evA,typC,q03,hk,hv] at hp g
 refine q00 (c:=q08) rfl rfl ?_
 rw [q03]
 simp only [hr,List.map_nil] at hp ⊢
 simp [q08,-Option.bind_some,-Int.toNat_lt,-List.map_map,List.range_succ,ht0,ht1,h0,g,hp,hk,hv,hr]
theorem fit_ev2 (sn:Bool) (S:List Typ) (t:Int) (x:Typ) (v:Vl) (f:Int->Vl->Bool) (h0:0<=t) (ht1:¬ (S.length:Int)<=t) (g:(S.map typC)[t.toNat]?=some (typC x)) (hk:x.kind=2) (hv:v.kind=2) (hp:evA 94 [.agg (valC v)] (.bool true)) (hr:v.rest=[]):evA 77 [schA sn S,.int .i64 t,.agg (valC v),.bool true] (.bool (decide (x.low<=v.i)&&decide (v.i<=x.high))):=by
 have ht0:¬ t<0:=by omega
 simp only [evA,typC,q03,hk,hv] at hp g
 refine q00 (c:=q08) rfl rfl ?_
 rw [q03]
 simp only [hr,List.map_nil] at hp ⊢
 by_cases c1:x.low<=v.i
 ·simp [q08,-Option.bind_some,-Int.toNat_lt,-List.map_map,List.range_succ,ht0,ht1,h0,g,hp,hk,hv,hr,c1]
 ·simp [q08,-Option.bind_some,-Int.toNat_lt,-List.map_map,List.range_succ,ht0,ht1,h0,g,hp,hk,hv,hr,c1]
theorem fit_ev3 (sn:Bool) (S:List Typ) (t:Int) (x:Typ) (v:Vl) (f:Int->Vl->Bool) (h0:0<=t) (ht1:¬ (S.length:Int)<=t) (g:(S.map typC)[t.toNat]?=some (typC x)) (hk:x.kind=3) (hv:v.kind=3) (hp:evA 94 [.agg (valC v)] (.bool true)) (hr:v.rest=[]):evA 77 [schA sn S,.int .i64 t,.agg (valC v),.bool true] (.bool (decide ((v.s.size:Int)<=x.max))):=by
 have ht0:¬ t<0:=by omega
 simp only [evA,typC,q03,hk,hv] at hp g
 refine q00 (c:=q08) rfl rfl ?_
 rw [q03]
 simp only [hr,List.map_nil] at hp ⊢
 simp [q08,-Option.bind_some,-Int.toNat_lt,-List.map_map,List.range_succ,ht0,ht1,h0,g,hp,hk,hv,hr]
theorem fit_ev4 (sn:Bool) (S:List Typ) (t:Int) (x:Typ) (v:Vl) (f:Int->Vl->Bool) (h0:0<=t) (ht1:¬ (S.length:Int)<=t) (g:(S.map typC)[t.toNat]?=some (typC x)) (hk:x.kind=4) (hv:v.kind=4) (hp:evA 94 [.agg (valC v)] (.bool true)) (hr:v.rest=[]) (hs:evA 95 [.agg (typC x),.int .i64 v.id] (symA x.syms v.id)):evA 77 [schA sn S,.int .i64 t,.agg (valC v),.bool true] (.bool (decide (0<=symIx x.syms v.id))):=by
 have ht0:¬ t<0:=by omega
 simp only [evA,typC,q03,hk,hv] at hp g
 refine q00 (c:=q08) rfl rfl ?_
 rw [q03]
 simp only [hr,List.map_nil] at hp ⊢
 simp only [evA,typC,symA,hk] at hs
 generalize symIx x.syms v.id=ix at *
 by_cases c1:0<=ix
 ·simp only [c1,decide_true] at hs
  simp [q08,-Option.bind_some,-Int.toNat_lt,-List.map_map,List.range_succ,ht0,ht1,h0,g,hp,hk,hv,hr,hs,c1]
 ·simp only [c1,decide_false] at hs
  cases ho:x.opn <;> simp only [ho] at hs g
  ·simp [q08,-Option.bind_some,-Int.toNat_lt,-List.map_map,List.range_succ,ht0,ht1,h0,g,hp,hk,hv,hr,hs,c1,ho]
  ·simp [q08,-Option.bind_some,-Int.toNat_lt,-List.map_map,List.range_succ,ht0,ht1,h0,g,hp,hk,hv,hr,hs,c1,ho]
theorem fit_ev7 (sn:Bool) (S:List Typ) (t:Int) (x:Typ) (v:Vl) (f:Int->Vl->Bool) (h0:0<=t) (ht1:¬ (S.length:Int)<=t) (g:(S.map typC)[t.toNat]?=some (typC x)) (hk:x.kind=7) (hv:v.kind=7) (hp:evA 94 [.agg (valC v)] (.bool true)) (hr:v.rest=[]) (he:evA 99 [schA sn S,.int .i64 x.elem,.sl v.xn (v.items.map valC),.bool true] (.bool (v.items.all (f x.elem)))):evA 77 [schA sn S,.int .i64 t,.agg (valC v),.bool true] (.bool (decide ((v.items.length:Int)<=x.max)&&v.items.all (f x.elem))):=by
 have ht0:¬ t<0:=by omega
 simp only [evA,typC,q03,hk,hv] at hp g
 refine q00 (c:=q08) rfl rfl ?_
 rw [q03]
 simp only [hr,List.map_nil] at hp ⊢
 simp only [evA] at he
 generalize v.items.all (f x.elem)=E at *
 by_cases c1:(v.items.length:Int)<=x.max
 ·simp [q08,-Option.bind_some,-Int.toNat_lt,-List.map_map,List.range_succ,ht0,ht1,h0,g,hp,hk,hv,hr,c1,he]
 ·simp [q08,-Option.bind_some,-Int.toNat_lt,-List.map_map,List.range_succ,ht0,ht1,h0,g,hp,hk,hv,hr,c1]
theorem fit_ev9 (sn:Bool) (S:List Typ) (t:Int) (x:Typ) (v:Vl) (f:Int->Vl->Bool) (h0:0<=t) (ht1:¬ (S.length:Int)<=t) (g:(S.map typC)[t.toNat]?=some (typC x)) (hk:x.kind=9) (hv:v.kind=9) (hp:evA 94 [.agg (valC v)] (.bool true)) (hr:v.rest=[]) (he:evA 99 [schA sn S,.int .i64 x.elem,.sl v.xn (v.items.map valC),.bool true] (.bool (v.items.all (f x.elem)))):evA 77 [schA sn S,.int .i64 t,.agg (valC v),.bool true] (.bool (decide (v.items.length<=1)&&v.items.all (f x.elem))):=by
 have ht0:¬ t<0:=by omega
 simp only [evA,typC,q03,hk,hv] at hp g
 refine q00 (c:=q08) rfl rfl ?_
 rw [q03]
 simp only [hr,List.map_nil] at hp ⊢
 simp only [evA] at he
 generalize v.items.all (f x.elem)=E at *
 by_cases c1:v.items.length<=1
 ·have c2:(v.items.length:Int)<=1:=by omega
  simp [q08,-Option.bind_some,-Int.toNat_lt,-List.map_map,List.range_succ,ht0,ht1,h0,g,hp,hk,hv,hr,c1,c2,he]
 ·have c2:¬ (v.items.length:Int)<=1:=by omega
  simp [q08,-Option.bind_some,-Int.toNat_lt,-List.map_map,List.range_succ,ht0,ht1,h0,g,hp,hk,hv,hr,c1,c2]
theorem fit_ev5 (sn:Bool) (S:List Typ) (t:Int) (x:Typ) (v:Vl) (f:Int->Vl->Bool) (h0:0<=t) (ht1:¬ (S.length:Int)<=t) (g:(S.map typC)[t.toNat]?=some (typC x)) (hk:x.kind=5) (hv:v.kind=5) (hp:evA 94 [.agg (valC v)] (.bool true)) (hr:v.rest=[]) (hml:x.mems.length<=9223372036854775807) (hre:evA 97 [.agg (typC x),.sl v.rn []] (.bool true)) (hf:∀ m∈x.mems,∀ u∈v.items,evA 77 [schA sn S,.int .i64 m.ty,.agg (valC u),.bool true] (.bool (f m.ty u))):evA 77 [schA sn S,.int .i64 t,.agg (valC v),.bool true] (.bool (decide (v.items.length=x.mems.length)&&q4n f x.mems v.items)):=by
 have ht0:¬ t<0:=by omega
 simp only [evA,typC,q03,hk,hv] at hp g
 refine q00 (c:=q08) rfl rfl ?_
 rw [q03]
 simp only [hr,List.map_nil] at hp ⊢
 simp only [evA,typC,hk] at hre
 by_cases c1:v.items.length=x.mems.length
 ·skip
  simp [q08,-Option.bind_some,-Int.toNat_lt,-List.map_map,List.range_succ,ht0,ht1,h0,g,hp,hk,hv,c1,hr,hre]
  refine q0h v.items.length (fun i s=>(s.env 3).v=.bool true/\(s.env 4).v=.ptr 4 1 0/\s.mem 4 1=some [⟨.sl sn (S.map typC),.no⟩]/\(s.env 6).v=.ptr 6 1 0/\s.mem 6 1=some ([⟨.int .i64 v.kind,.no⟩,⟨.bool v.b,.no⟩,⟨.int .i64 v.i,.no⟩,⟨.str v.s,.no⟩,⟨.int .i64 v.id,.no⟩,⟨.sl v.kn (v.keys.map valC),.no⟩,⟨.sl v.xn (v.items.map valC),.no⟩,⟨.sl v.rn (v.rest.map rawC),.no⟩])/\(s.env 9).v=.ptr 9 3 0/\s.mem 9 3=some (q12 x)/\(s.env 12).v=.int .i64 i/\q4n f (x.mems.drop i) (v.items.drop i)=q4n f x.mems v.items)
   (fun e s=>(e=.exit 1/\q4n f x.mems v.items=true)\/(e=.ret/\q4n f x.mems v.items=false/\(s.env 8).v=.bool false)) (fun i hi s k h ih hk'=>?_) _ _ ?_ (fun e s h=>?_)
  ·obtain ⟨e3,e4,m4,e6,m6,e9,m9,e12,hs⟩:=h
   refine q04 ?_
   by_cases hlt2:i<v.items.length
   ·have hlt':(i:Int)<v.items.length:=by omega
    have hlt:i<x.mems.length:=by omega
    have g1:(x.mems.map memC)[i]?=some (memC x.mems[i]):=by simp [hlt]
    have g2:(v.items.map valC)[i]?=some (valC v.items[i]):=by simp [hlt2]
    have hw:=q0W (i:=i) (by omega)
    have hx:=hf x.mems[i] (List.getElem_mem _) v.items[i] (List.getElem_mem _)
    rw [List.drop_eq_getElem_cons hlt,List.drop_eq_getElem_cons hlt2,q4n] at hs
    generalize x.mems[i]=m at *
    generalize v.items[i]=u at *
    simp only [evA,memC,q03] at g1 g2 hx
    cases hfu:f m.ty u with
    | true =>
     rw [hfu] at hx hs
     simp [q3V,-Option.bind_some,-Int.toNat_lt,-List.map_map,List.range_succ,e3,e4,m4,e6,m6,e9,m9,e12,hlt',g1,g2,hx,hw]
     refine ih hlt2 _ ⟨?_,?_,?_,?_,?_,?_,?_,?_,by simpa using hs⟩ <;> simp [e3,e4,m4,e6,m6,e9,m9]
    | false =>
     rw [hfu] at hx hs
     simp [q3V,-Option.bind_some,-Int.toNat_lt,-List.map_map,List.range_succ,e3,e4,m4,e6,m6,e9,m9,e12,hlt',g1,g2,hx]
     exact hk' _ _ (.inr ⟨rfl,by rw [<- hs]; rfl,by simp⟩)
   ·have hlt':¬ (i:Int)<v.items.length:=by omega
    simp [q3V,-Option.bind_some,-Int.toNat_lt,-List.map_map,List.range_succ,e6,m6,e12,hlt']
    have hd:x.mems.drop i=[]:=List.drop_eq_nil_of_le (by omega)
    rw [hd,q4n] at hs
    ·exact hk' _ _ (.inl ⟨rfl,hs.symm⟩)
    ·intro m r v' q h; cases h
  ·simp [hk,hv,hr]
  ·rcases h with ⟨rfl,h1⟩ | ⟨rfl,h1,h2⟩
   ·simp [-Option.bind_some,-Int.toNat_lt,-List.map_map,List.range_succ,h1]
   ·simp [-Option.bind_some,-Int.toNat_lt,-List.map_map,List.range_succ,h1,h2]
 ·have c1':¬ (v.items.length:Int)=x.mems.length:=by omega
  simp [q08,-Option.bind_some,-Int.toNat_lt,-List.map_map,List.range_succ,ht0,ht1,h0,g,hp,hk,hv,hr,c1,c1']
theorem fit_ev6 (sn:Bool) (S:List Typ) (t:Int) (x:Typ) (v:Vl) (f:Int->Vl->Bool) (h0:0<=t) (ht1:¬ (S.length:Int)<=t) (g:(S.map typC)[t.toNat]?=some (typC x)) (hk:x.kind=6) (hv:v.kind=6) (hp:evA 94 [.agg (valC v)] (.bool true)) (hr:v.rest=[]) (hm:evA 98 [.agg (typC x),.int .i64 v.id] (memA x.mems v.id)) (hf:∀ m∈x.mems,∀ u∈v.items,evA 77 [schA sn S,.int .i64 m.ty,.agg (valC u),.bool true] (.bool (f m.ty u))):evA 77 [schA sn S,.int .i64 t,.agg (valC v),.bool true] (.bool (q4u f x.mems[(q5u x.mems v.id).toNat]? (decide (0<=q5u x.mems v.id)) v.rest.isEmpty v.items)):=by
 have ht0:¬ t<0:=by omega
 simp only [evA,typC,q03,hk,hv] at hp g
 refine q00 (c:=q08) rfl rfl ?_
 rw [q03]
 simp only [hr,List.map_nil] at hp ⊢
 simp only [evA,typC,memA,hk] at hm
 have hix:=idxI_some (fun m:Mem=>decide (m.id=v.id)) x.mems
 have hge:=q2U (fun m:Mem=>decide (m.id=v.id)) x.mems
 change q5u x.mems v.id≠-1->_ at hix
 change -1<=q5u x.mems v.id at hge
 change ∀ h:q5u x.mems v.id≠-1,∃ y,x.mems[(q5u x.mems v.id).toNat]?=some y/\_ at hix
 generalize q5u x.mems v.id=ix at *
 by_cases c1:0<=ix
 ·simp only [c1,decide_true] at hm
  obtain ⟨m,hm1,_⟩:=hix (by omega)
  have hmx:max ix 0=ix:=Int.max_eq_left c1
  rw [hmx] at hm
  have g2:(x.mems.map memC)[ix.toNat]?=some (memC m):=by rw [List.getElem?_map,hm1]; rfl
  simp only [memC] at g2
  rw [hm1]
  by_cases c2:v.items.length=1
  ·obtain ⟨u,hu⟩:=List.length_eq_one_iff.1 c2
   have hf:=hf m (List.mem_of_getElem? hm1) u (by rw [hu]; simp)
   simp only [evA,q03] at hf
   rw [hu] at hp ⊢
   simp only [q03,List.map_cons,List.map_nil] at hp
   simp [q08,-Option.bind_some,-Int.toNat_lt,-List.map_map,List.range_succ,ht0,ht1,h0,g,hp,hk,hv,hr,hm,g2,c1,hf,q03,q4u]
  ·have c2':¬ (v.items.length:Int)=1:=by omega
   rw [q8L _ _ _ _ _ c2]
   simp [q08,-Option.bind_some,-Int.toNat_lt,-List.map_map,List.range_succ,ht0,ht1,h0,g,hp,hk,hv,hr,hm,g2,c1,c2']
 ·simp only [c1,decide_false] at hm
  rw [decide_eq_false c1,unionFit_no]
  cases ho:x.opn <;> simp only [ho] at hm g
  ·simp [q08,-Option.bind_some,-Int.toNat_lt,-List.map_map,List.range_succ,ht0,ht1,h0,g,hp,hk,hv,hr,hm,ho]
  ·simp [q08,-Option.bind_some,-Int.toNat_lt,-List.map_map,List.range_succ,ht0,ht1,h0,g,hp,hk,hv,hr,hm,ho]
theorem fit_ev8 (sn:Bool) (S:List Typ) (t:Int) (x:Typ) (v:Vl) (f:Int->Vl->Bool) (h0:0<=t) (ht1:¬ (S.length:Int)<=t) (g:(S.map typC)[t.toNat]?=some (typC x)) (hk:x.kind=8) (hv:v.kind=8) (hp:evA 94 [.agg (valC v)] (.bool true)) (hr:v.rest=[]) (hmx:x.max<=50) (hi64:∀ k∈v.keys,i64R k.i) (he:evA 99 [schA sn S,.int .i64 x.elem,.sl v.xn (v.items.map valC),.bool true] (.bool (v.items.all (f x.elem)))) (hke:evA 99 [schA sn S,.int .i64 x.key,.sl v.kn (v.keys.map valC),.bool true] (.bool (v.keys.all (f x.key)))):evA 77 [schA sn S,.int .i64 t,.agg (valC v),.bool true] (.bool (decide ((v.keys.length:Int)<=x.max)&&decide (v.items.length=v.keys.length)&&v.keys.all (f x.key)&&ascV v.keys&&v.items.all (f x.elem))):=by
 have ht0:¬ t<0:=by omega
 simp only [evA,typC,q03,hk,hv] at hp g
 refine q00 (c:=q08) rfl rfl ?_
 rw [q03]
 simp only [hr,List.map_nil] at hp ⊢
 simp only [evA] at he hke
 generalize v.items.all (f x.elem)=E at *
 generalize v.keys.all (f x.key)=KE at *
 by_cases c1:x.max<v.keys.length
 ·have c1':¬ (v.keys.length:Int)<=x.max:=by omega
  simp [q08,-Option.bind_some,-Int.toNat_lt,-List.map_map,List.range_succ,ht0,ht1,h0,g,hp,hk,hv,hr,c1,c1']
 have c1':(v.keys.length:Int)<=x.max:=by omega
 have hkl:v.keys.length<=50:=by omega
 by_cases c2:v.items.length=v.keys.length
 case neg =>
  have c2':¬ (v.items.length:Int)=v.keys.length:=by omega
  simp [q08,-Option.bind_some,-Int.toNat_lt,-List.map_map,List.range_succ,ht0,ht1,h0,g,hp,hk,hv,hr,c1,c1',c2,c2']
 cases KE with
 | false=>simp [q08,-Option.bind_some,-Int.toNat_lt,-List.map_map,List.range_succ,ht0,ht1,h0,g,hp,hk,hv,hr,c1,c1',c2,hke]
 | true =>
  cases E with
  | false=>simp [q08,-Option.bind_some,-Int.toNat_lt,-List.map_map,List.range_succ,ht0,ht1,h0,g,hp,hk,hv,hr,c1,c1',c2,hke,he]
  | true =>
  simp [q08,-Option.bind_some,-Int.toNat_lt,-List.map_map,List.range_succ,ht0,ht1,h0,g,hp,hk,hv,hr,c1,c1',c2,hke,he]
  refine q0h (v.keys.length - 1) (fun i s=>(s.env 6).v=.ptr 6 1 0/\s.mem 6 1=some (valRow v)/\(s.env 15).v=.int .i64 ((i + 1:Nat):Int)/\ascV (v.keys.drop i)=ascV v.keys)
   (fun e s=>(e=.exit 3/\ascV v.keys=true)\/(e=.ret/\ascV v.keys=false/\(s.env 8).v=.bool false)) (fun i hi s k h ih hk'=>?_) _ _ ?_ (fun e s h=>?_)
  ·obtain ⟨e6,m6,e20,hs⟩:=h
   refine q04 ?_
   by_cases hlt:i<v.keys.length - 1
   ·have hl1:i<v.keys.length:=by omega
    have hl2:i + 1<v.keys.length:=by omega
    have hx:=rvcmp_ev v.keys[i] v.keys[i + 1] (hi64 _ (List.getElem_mem _)) (hi64 _ (List.getElem_mem _))
    have g1:(v.keys.map valC)[i]?=some (valC v.keys[i]):=by simp [hl1]
    have g2:(v.keys.map valC)[i + 1]?=some (valC v.keys[i + 1]):=by simp [hl2]
    rw [List.drop_eq_getElem_cons hl1,List.drop_eq_getElem_cons hl2,ascV] at hs
    have hs':(decide (vcmp v.keys[i] v.keys[i + 1]<0)&&ascV (v.keys.drop (i + 1)))=ascV v.keys:=by rw [<- hs,List.drop_eq_getElem_cons hl2]
    clear hs
    generalize v.keys[i]=a at *
    generalize v.keys[i + 1]=b at *
    obtain ⟨z,hz⟩:∃ z:Int,z=((i + 1:Nat):Int):=⟨_,rfl⟩
    obtain ⟨y,hy⟩:∃ y:Int,y=(i:Int):=⟨_,rfl⟩
    rw [<- hz] at e20
    have hz0:0<=z:=by omega
    have hy0:0<=y:=by omega
    have hlz:z<v.keys.length:=by omega
    have hwm:IntKind.i64.wrap (z - 1)=y:=by rw [IntWalk.i64_in _ (by omega)]; omega
    have hwz:IntKind.i64.wrap (z + 1)=((i + 1 + 1:Nat):Int):=by rw [IntWalk.i64_in _ (by omega)]; omega
    rw [show i=y.toNat from by omega] at g1
    rw [show i + 1=z.toNat from by omega] at g2
    simp only [evA,q03] at g1 g2 hx
    by_cases hc:vcmp a b<0
    ·have hc':¬ 0<=vcmp a b:=by omega
     simp [q42,-Option.bind_some,-Int.toNat_lt,-List.map_map,List.range_succ,e6,m6,e20,hlz,hz0,hy0,hwm,g1,g2,hx,hc',hwz]
     refine ih hlt _ ⟨?_,?_,?_,by rw [<- hs',decide_eq_true hc]; rfl⟩ <;> simp [e6,m6]
    ·have hc':0<=vcmp a b:=by omega
     simp [q42,-Option.bind_some,-Int.toNat_lt,-List.map_map,List.range_succ,e6,m6,e20,hlz,hz0,hy0,hwm,g1,g2,hx,hc']
     exact hk' _ _ (.inr ⟨rfl,by rw [<- hs',decide_eq_false hc]; rfl,by simp⟩)
   ·obtain ⟨z,hz⟩:∃ z:Int,z=((i + 1:Nat):Int):=⟨_,rfl⟩
    rw [<- hz] at e20
    have hlz:¬ z<v.keys.length:=by omega
    have hasc:ascV (v.keys.drop i)=true:=by
     match hd:v.keys.drop i with
     | []=>rfl
     | [_]=>rfl
     | a :: b :: r=>have:=congrArg List.length hd; simp at this; omega
    rw [hasc] at hs
    simp [q42,-Option.bind_some,-Int.toNat_lt,-List.map_map,List.range_succ,e6,m6,e20,hlz]
    exact hk' _ _ (.inl ⟨rfl,hs.symm⟩)
  ·simp [hv,hr]
  ·rcases h with ⟨rfl,h1⟩ | ⟨rfl,h1,h2⟩
   ·simp [-Option.bind_some,-Int.toNat_lt,-List.map_map,List.range_succ,h1]
   ·simp [-Option.bind_some,-Int.toNat_lt,-List.map_map,List.range_succ,h1,h2]
theorem rzero_ev1 (v:Vl) (h:v.kind=1):evA 94 [.agg (valC v)] (.bool (q2K v)):=by
 refine q00 (c:=q01) rfl rfl ?_
 rw [q03]
 unfold q2K
 by_cases hi:v.i=0
 ·by_cases hs:v.s=⟨#[]⟩
  ·by_cases hd:v.id=0
   ·by_cases hk:v.keys=[]
    ·by_cases hx:v.items=[]
     ·by_cases hr:v.rest=[]
      ·simp [q01,-Option.bind_some,-Int.toNat_lt,-List.map_map,List.range_succ,h,hi,hs,hd,hk,hx,hr]
      ·simp [q01,-Option.bind_some,-Int.toNat_lt,-List.map_map,List.range_succ,h,hi,hs,hd,hk,hx,hr]
     ·simp [q01,-Option.bind_some,-Int.toNat_lt,-List.map_map,List.range_succ,h,hi,hs,hd,hk,hx]
    ·simp [q01,-Option.bind_some,-Int.toNat_lt,-List.map_map,List.range_succ,h,hi,hs,hd,hk]
   ·simp [q01,-Option.bind_some,-Int.toNat_lt,-List.map_map,List.range_succ,h,hi,hs,hd]
  ·simp [q01,-Option.bind_some,-Int.toNat_lt,-List.map_map,List.range_succ,h,hi,hs]
 ·simp [q01,-Option.bind_some,-Int.toNat_lt,-List.map_map,List.range_succ,h,hi]
theorem rzero_ev2 (v:Vl) (h:v.kind=2):evA 94 [.agg (valC v)] (.bool (q2K v)):=by
 refine q00 (c:=q01) rfl rfl ?_
 rw [q03]
 unfold q2K
 by_cases hb:v.b=false
 ·by_cases hs:v.s=⟨#[]⟩
  ·by_cases hd:v.id=0
   ·by_cases hk:v.keys=[]
    ·by_cases hx:v.items=[]
     ·by_cases hr:v.rest=[]
      ·simp [q01,-Option.bind_some,-Int.toNat_lt,-List.map_map,List.range_succ,h,hb,hs,hd,hk,hx,hr]
      ·simp [q01,-Option.bind_some,-Int.toNat_lt,-List.map_map,List.range_succ,h,hb,hs,hd,hk,hx,hr]
     ·simp [q01,-Option.bind_some,-Int.toNat_lt,-List.map_map,List.range_succ,h,hb,hs,hd,hk,hx]
    ·simp [q01,-Option.bind_some,-Int.toNat_lt,-List.map_map,List.range_succ,h,hb,hs,hd,hk]
   ·simp [q01,-Option.bind_some,-Int.toNat_lt,-List.map_map,List.range_succ,h,hb,hs,hd]
  ·simp [q01,-Option.bind_some,-Int.toNat_lt,-List.map_map,List.range_succ,h,hb,hs]
 ·simp [q01,-Option.bind_some,-Int.toNat_lt,-List.map_map,List.range_succ,h,hb]
theorem rzero_ev3 (v:Vl) (h:v.kind=3):evA 94 [.agg (valC v)] (.bool (q2K v)):=by
 refine q00 (c:=q01) rfl rfl ?_
 rw [q03]
 unfold q2K
 by_cases hb:v.b=false
 ·by_cases hi:v.i=0
  ·by_cases hd:v.id=0
   ·by_cases hk:v.keys=[]
    ·by_cases hx:v.items=[]
     ·by_cases hr:v.rest=[]
      ·simp [q01,-Option.bind_some,-Int.toNat_lt,-List.map_map,List.range_succ,h,hb,hi,hd,hk,hx,hr]
      ·simp [q01,-Option.bind_some,-Int.toNat_lt,-List.map_map,List.range_succ,h,hb,hi,hd,hk,hx,hr]
     ·simp [q01,-Option.bind_some,-Int.toNat_lt,-List.map_map,List.range_succ,h,hb,hi,hd,hk,hx]
    ·simp [q01,-Option.bind_some,-Int.toNat_lt,-List.map_map,List.range_succ,h,hb,hi,hd,hk]
   ·simp [q01,-Option.bind_some,-Int.toNat_lt,-List.map_map,List.range_succ,h,hb,hi,hd]
  ·simp [q01,-Option.bind_some,-Int.toNat_lt,-List.map_map,List.range_succ,h,hb,hi]
 ·simp [q01,-Option.bind_some,-Int.toNat_lt,-List.map_map,List.range_succ,h,hb]
theorem rzero_ev4 (v:Vl) (h:v.kind=4):evA 94 [.agg (valC v)] (.bool (q2K v)):=by
 refine q00 (c:=q01) rfl rfl ?_
 rw [q03]
 unfold q2K
 by_cases hb:v.b=false
 ·by_cases hi:v.i=0
  ·by_cases hs:v.s=⟨#[]⟩
   ·by_cases hk:v.keys=[]
    ·by_cases hx:v.items=[]
     ·by_cases hr:v.rest=[]
      ·simp [q01,-Option.bind_some,-Int.toNat_lt,-List.map_map,List.range_succ,h,hb,hi,hs,hk,hx,hr]
      ·simp [q01,-Option.bind_some,-Int.toNat_lt,-List.map_map,List.range_succ,h,hb,hi,hs,hk,hx,hr]
     ·simp [q01,-Option.bind_some,-Int.toNat_lt,-List.map_map,List.range_succ,h,hb,hi,hs,hk,hx]
    ·simp [q01,-Option.bind_some,-Int.toNat_lt,-List.map_map,List.range_succ,h,hb,hi,hs,hk]
   ·simp [q01,-Option.bind_some,-Int.toNat_lt,-List.map_map,List.range_succ,h,hb,hi,hs]
  ·simp [q01,-Option.bind_some,-Int.toNat_lt,-List.map_map,List.range_succ,h,hb,hi]
 ·simp [q01,-Option.bind_some,-Int.toNat_lt,-List.map_map,List.range_succ,h,hb]
theorem rzero_ev5 (v:Vl) (h:v.kind=5):evA 94 [.agg (valC v)] (.bool (q2K v)):=by
 refine q00 (c:=q01) rfl rfl ?_
 rw [q03]
 unfold q2K
 by_cases hb:v.b=false
 ·by_cases hi:v.i=0
  ·by_cases hs:v.s=⟨#[]⟩
   ·by_cases hd:v.id=0
    ·by_cases hk:v.keys=[]
     ·simp [q01,-Option.bind_some,-Int.toNat_lt,-List.map_map,List.range_succ,h,hb,hi,hs,hd,hk]
     ·simp [q01,-Option.bind_some,-Int.toNat_lt,-List.map_map,List.range_succ,h,hb,hi,hs,hd,hk]
    ·simp [q01,-Option.bind_some,-Int.toNat_lt,-List.map_map,List.range_succ,h,hb,hi,hs,hd]
   ·simp [q01,-Option.bind_some,-Int.toNat_lt,-List.map_map,List.range_succ,h,hb,hi,hs]
  ·simp [q01,-Option.bind_some,-Int.toNat_lt,-List.map_map,List.range_succ,h,hb,hi]
 ·simp [q01,-Option.bind_some,-Int.toNat_lt,-List.map_map,List.range_succ,h,hb]
theorem rzero_ev6 (v:Vl) (h:v.kind=6):evA 94 [.agg (valC v)] (.bool (q2K v)):=by
 refine q00 (c:=q01) rfl rfl ?_
 rw [q03]
 unfold q2K
 by_cases hb:v.b=false
 ·by_cases hi:v.i=0
  ·by_cases hs:v.s=⟨#[]⟩
   ·by_cases hk:v.keys=[]
    ·simp [q01,-Option.bind_some,-Int.toNat_lt,-List.map_map,List.range_succ,h,hb,hi,hs,hk]
    ·simp [q01,-Option.bind_some,-Int.toNat_lt,-List.map_map,List.range_succ,h,hb,hi,hs,hk]
   ·simp [q01,-Option.bind_some,-Int.toNat_lt,-List.map_map,List.range_succ,h,hb,hi,hs]
  ·simp [q01,-Option.bind_some,-Int.toNat_lt,-List.map_map,List.range_succ,h,hb,hi]
 ·simp [q01,-Option.bind_some,-Int.toNat_lt,-List.map_map,List.range_succ,h,hb]
theorem rzero_ev7 (v:Vl) (h:v.kind=7):evA 94 [.agg (valC v)] (.bool (q2K v)):=by
 refine q00 (c:=q01) rfl rfl ?_
 rw [q03]
 unfold q2K
 by_cases hb:v.b=false
 ·by_cases hi:v.i=0
  ·by_cases hs:v.s=⟨#[]⟩
   ·by_cases hd:v.id=0
    ·by_cases hk:v.keys=[]
     ·by_cases hr:v.rest=[]
      ·simp [q01,-Option.bind_some,-Int.toNat_lt,-List.map_map,List.range_succ,h,hb,hi,hs,hd,hk,hr]
      ·simp [q01,-Option.bind_some,-Int.toNat_lt,-List.map_map,List.range_succ,h,hb,hi,hs,hd,hk,hr]
     ·simp [q01,-Option.bind_some,-Int.toNat_lt,-List.map_map,List.range_succ,h,hb,hi,hs,hd,hk]
    ·simp [q01,-Option.bind_some,-Int.toNat_lt,-List.map_map,List.range_succ,h,hb,hi,hs,hd]
   ·simp [q01,-Option.bind_some,-Int.toNat_lt,-List.map_map,List.range_succ,h,hb,hi,hs]
  ·simp [q01,-Option.bind_some,-Int.toNat_lt,-List.map_map,List.range_succ,h,hb,hi]
 ·simp [q01,-Option.bind_some,-Int.toNat_lt,-List.map_map,List.range_succ,h,hb]
theorem rzero_ev8 (v:Vl) (h:v.kind=8):evA 94 [.agg (valC v)] (.bool (q2K v)):=by
 refine q00 (c:=q01) rfl rfl ?_
 rw [q03]
 unfold q2K
 by_cases hb:v.b=false
 ·by_cases hi:v.i=0
  ·by_cases hs:v.s=⟨#[]⟩
   ·by_cases hd:v.id=0
    ·by_cases hr:v.rest=[]
     ·simp [q01,-Option.bind_some,-Int.toNat_lt,-List.map_map,List.range_succ,h,hb,hi,hs,hd,hr]
     ·simp [q01,-Option.bind_some,-Int.toNat_lt,-List.map_map,List.range_succ,h,hb,hi,hs,hd,hr]
    ·simp [q01,-Option.bind_some,-Int.toNat_lt,-List.map_map,List.range_succ,h,hb,hi,hs,hd]
   ·simp [q01,-Option.bind_some,-Int.toNat_lt,-List.map_map,List.range_succ,h,hb,hi,hs]
  ·simp [q01,-Option.bind_some,-Int.toNat_lt,-List.map_map,List.range_succ,h,hb,hi]
 ·simp [q01,-Option.bind_some,-Int.toNat_lt,-List.map_map,List.range_succ,h,hb]
theorem rzero_ev9 (v:Vl) (h:v.kind=9):evA 94 [.agg (valC v)] (.bool (q2K v)):=by
 refine q00 (c:=q01) rfl rfl ?_
 rw [q03]
 unfold q2K
 by_cases hb:v.b=false
 ·by_cases hi:v.i=0
  ·by_cases hs:v.s=⟨#[]⟩
   ·by_cases hd:v.id=0
    ·by_cases hk:v.keys=[]
     ·by_cases hr:v.rest=[]
      ·simp [q01,-Option.bind_some,-Int.toNat_lt,-List.map_map,List.range_succ,h,hb,hi,hs,hd,hk,hr]
      ·simp [q01,-Option.bind_some,-Int.toNat_lt,-List.map_map,List.range_succ,h,hb,hi,hs,hd,hk,hr]
     ·simp [q01,-Option.bind_some,-Int.toNat_lt,-List.map_map,List.range_succ,h,hb,hi,hs,hd,hk]
    ·simp [q01,-Option.bind_some,-Int.toNat_lt,-List.map_map,List.range_succ,h,hb,hi,hs,hd]
   ·simp [q01,-Option.bind_some,-Int.toNat_lt,-List.map_map,List.range_succ,h,hb,hi,hs]
  ·simp [q01,-Option.bind_some,-Int.toNat_lt,-List.map_map,List.range_succ,h,hb,hi]
 ·simp [q01,-Option.bind_some,-Int.toNat_lt,-List.map_map,List.range_succ,h,hb]
theorem fits_ev1 (sn:Bool) (S:List Typ) (t:Int) (x:Typ) (v:Vl) (f:Int->Vl->Bool) (h0:0<=t) (ht1:¬ (S.length:Int)<=t) (g:(S.map typC)[t.toNat]?=some (typC x)) (hk:x.kind=1) (hv:v.kind=1) (hp:evA 109 [.agg (valC v)] (.bool true)):evA 82 [schA sn S,.int .i64 t,.agg (valC v),.bool true] (.bool (true)):=by
 have ht0:¬ t<0:=by omega
 simp only [evA,typC,q03,hk,hv] at hp g
 refine q00 (c:=q06) rfl rfl ?_
 rw [q03]
 simp [q06,-Option.bind_some,-Int.toNat_lt,-List.map_map,List.range_succ,ht0,ht1,h0,g,hp,hk,hv]
theorem fits_ev2 (sn:Bool) (S:List Typ) (t:Int) (x:Typ) (v:Vl) (f:Int->Vl->Bool) (h0:0<=t) (ht1:¬ (S.length:Int)<=t) (g:(S.map typC)[t.toNat]?=some (typC x)) (hk:x.kind=2) (hv:v.kind=2) (hp:evA 109 [.agg (valC v)] (.bool true)):evA 82 [schA sn S,.int .i64 t,.agg (valC v),.bool true] (.bool (decide (x.low<=v.i)&&decide (v.i<=x.high))):=by
 have ht0:¬ t<0:=by omega
 simp only [evA,typC,q03,hk,hv] at hp g
 refine q00 (c:=q06) rfl rfl ?_
 rw [q03]
 by_cases c1:x.low<=v.i
 ·simp [q06,-Option.bind_some,-Int.toNat_lt,-List.map_map,List.range_succ,ht0,ht1,h0,g,hp,hk,hv,c1]
 ·simp [q06,-Option.bind_some,-Int.toNat_lt,-List.map_map,List.range_succ,ht0,ht1,h0,g,hp,hk,hv,c1]
theorem fits_ev3 (sn:Bool) (S:List Typ) (t:Int) (x:Typ) (v:Vl) (f:Int->Vl->Bool) (h0:0<=t) (ht1:¬ (S.length:Int)<=t) (g:(S.map typC)[t.toNat]?=some (typC x)) (hk:x.kind=3) (hv:v.kind=3) (hp:evA 109 [.agg (valC v)] (.bool true)):evA 82 [schA sn S,.int .i64 t,.agg (valC v),.bool true] (.bool (decide ((v.s.size:Int)<=x.max))):=by
 have ht0:¬ t<0:=by omega
 simp only [evA,typC,q03,hk,hv] at hp g
 refine q00 (c:=q06) rfl rfl ?_
 rw [q03]
 simp [q06,-Option.bind_some,-Int.toNat_lt,-List.map_map,List.range_succ,ht0,ht1,h0,g,hp,hk,hv]
theorem fits_ev4 (sn:Bool) (S:List Typ) (t:Int) (x:Typ) (v:Vl) (f:Int->Vl->Bool) (h0:0<=t) (ht1:¬ (S.length:Int)<=t) (g:(S.map typC)[t.toNat]?=some (typC x)) (hk:x.kind=4) (hv:v.kind=4) (hp:evA 109 [.agg (valC v)] (.bool true)) (hs:evA 110 [.agg (typC x),.int .i64 v.id] (symA x.syms v.id)):evA 82 [schA sn S,.int .i64 t,.agg (valC v),.bool true] (.bool (decide (0<=symIx x.syms v.id))):=by
 have ht0:¬ t<0:=by omega
 simp only [evA,typC,q03,hk,hv] at hp g
 refine q00 (c:=q06) rfl rfl ?_
 rw [q03]
 simp only [evA,typC,symA,hk] at hs
 generalize symIx x.syms v.id=ix at *
 by_cases c1:0<=ix
 ·simp only [c1,decide_true] at hs
  simp [q06,-Option.bind_some,-Int.toNat_lt,-List.map_map,List.range_succ,ht0,ht1,h0,g,hp,hk,hv,hs,c1]
 ·simp only [c1,decide_false] at hs
  cases ho:x.opn <;> simp only [ho] at hs g
  ·simp [q06,-Option.bind_some,-Int.toNat_lt,-List.map_map,List.range_succ,ht0,ht1,h0,g,hp,hk,hv,hs,c1,ho]
  ·simp [q06,-Option.bind_some,-Int.toNat_lt,-List.map_map,List.range_succ,ht0,ht1,h0,g,hp,hk,hv,hs,c1,ho]
theorem fits_ev7 (sn:Bool) (S:List Typ) (t:Int) (x:Typ) (v:Vl) (f:Int->Vl->Bool) (h0:0<=t) (ht1:¬ (S.length:Int)<=t) (g:(S.map typC)[t.toNat]?=some (typC x)) (hk:x.kind=7) (hv:v.kind=7) (hp:evA 109 [.agg (valC v)] (.bool true)) (he:evA 113 [schA sn S,.int .i64 x.elem,.sl v.xn (v.items.map valC),.bool true] (.bool (v.items.all (f x.elem)))):evA 82 [schA sn S,.int .i64 t,.agg (valC v),.bool true] (.bool (decide ((v.items.length:Int)<=x.max)&&v.items.all (f x.elem))):=by
 have ht0:¬ t<0:=by omega
 simp only [evA,typC,q03,hk,hv] at hp g
 refine q00 (c:=q06) rfl rfl ?_
 rw [q03]
 simp only [evA] at he
 generalize v.items.all (f x.elem)=E at *
 by_cases c1:(v.items.length:Int)<=x.max
 ·simp [q06,-Option.bind_some,-Int.toNat_lt,-List.map_map,List.range_succ,ht0,ht1,h0,g,hp,hk,hv,c1,he]
 ·simp [q06,-Option.bind_some,-Int.toNat_lt,-List.map_map,List.range_succ,ht0,ht1,h0,g,hp,hk,hv,c1]
theorem fits_ev9 (sn:Bool) (S:List Typ) (t:Int) (x:Typ) (v:Vl) (f:Int->Vl->Bool) (h0:0<=t) (ht1:¬ (S.length:Int)<=t) (g:(S.map typC)[t.toNat]?=some (typC x)) (hk:x.kind=9) (hv:v.kind=9) (hp:evA 109 [.agg (valC v)] (.bool true)) (he:evA 113 [schA sn S,.int .i64 x.elem,.sl v.xn (v.items.map valC),.bool true] (.bool (v.items.all (f x.elem)))):evA 82 [schA sn S,.int .i64 t,.agg (valC v),.bool true] (.bool (decide (v.items.length<=1)&&v.items.all (f x.elem))):=by
 have ht0:¬ t<0:=by omega
 simp only [evA,typC,q03,hk,hv] at hp g
 refine q00 (c:=q06) rfl rfl ?_
 rw [q03]
 simp only [evA] at he
 generalize v.items.all (f x.elem)=E at *
 by_cases c1:v.items.length<=1
 ·have c2:(v.items.length:Int)<=1:=by omega
  simp [q06,-Option.bind_some,-Int.toNat_lt,-List.map_map,List.range_succ,ht0,ht1,h0,g,hp,hk,hv,c1,c2,he]
 ·have c2:¬ (v.items.length:Int)<=1:=by omega
  simp [q06,-Option.bind_some,-Int.toNat_lt,-List.map_map,List.range_succ,ht0,ht1,h0,g,hp,hk,hv,c1,c2]
theorem fits_ev5 (sn:Bool) (S:List Typ) (t:Int) (x:Typ) (v:Vl) (f:Int->Vl->Bool) (h0:0<=t) (ht1:¬ (S.length:Int)<=t) (g:(S.map typC)[t.toNat]?=some (typC x)) (hk:x.kind=5) (hv:v.kind=5) (hp:evA 109 [.agg (valC v)] (.bool true)) (hml:x.mems.length<=9223372036854775807) (hf:∀ m∈x.mems,∀ u∈v.items,evA 82 [schA sn S,.int .i64 m.ty,.agg (valC u),.bool true] (.bool (f m.ty u))):evA 82 [schA sn S,.int .i64 t,.agg (valC v),.bool true] (.bool (decide (v.items.length=x.mems.length)&&v.rest.isEmpty&&q4n f x.mems v.items)):=by
 have ht0:¬ t<0:=by omega
 simp only [evA,typC,q03,hk,hv] at hp g
 refine q00 (c:=q06) rfl rfl ?_
 rw [q03]
 by_cases c1:v.items.length=x.mems.length
 ·by_cases c2:v.rest=[]
  case neg =>
   have c2':0<v.rest.length:=by
    have:v.rest.length≠0:=fun h=>c2 (List.eq_nil_of_length_eq_zero h)
    omega
   simp [q06,-Option.bind_some,-Int.toNat_lt,-List.map_map,List.range_succ,ht0,ht1,h0,g,hp,hk,hv,c1,c2,c2']
  rw [c2] at hp ⊢
  simp only [List.map_nil] at hp
  simp [q06,-Option.bind_some,-Int.toNat_lt,-List.map_map,List.range_succ,ht0,ht1,h0,g,hp,hk,hv,c1,c2]
  refine q04 ?_
  simp [q6m,-Option.bind_some,-Int.toNat_lt,-List.map_map,List.range_succ]
  refine q0h x.mems.length (fun i s=>(s.env 3).v=.bool true/\(s.env 4).v=.ptr 4 1 0/\s.mem 4 1=some [⟨.sl sn (S.map typC),.no⟩]/\(s.env 6).v=.ptr 6 1 0/\s.mem 6 1=some ([⟨.int .i64 5,.no⟩,⟨.bool v.b,.no⟩,⟨.int .i64 v.i,.no⟩,⟨.str v.s,.no⟩,⟨.int .i64 v.id,.no⟩,⟨.sl v.kn (v.keys.map valC),.no⟩,⟨.sl v.xn (v.items.map valC),.no⟩,⟨.sl v.rn [],.no⟩])/\(s.env 150).v=.sl x.mn (x.mems.map memC)/\(s.env 151).v=.int .i64 x.mems.length/\(s.env 152).v=.int .i64 i/\q4n f (x.mems.drop i) (v.items.drop i)=q4n f x.mems v.items)
   (fun e s=>(e=.exit 3/\q4n f x.mems v.items=true)\/(e=.ret/\q4n f x.mems v.items=false/\(s.env 8).v=.bool false)) (fun i hi s k h ih hk'=>?_) _ _ ?_ (fun e s h=>?_)
  ·obtain ⟨e3,e4,m4,e6,m6,e150,e151,e152,hs⟩:=h
   refine q04 ?_
   by_cases hlt:i<x.mems.length
   ·have hlt':(i:Int)<x.mems.length:=by omega
    have hlt2:i<v.items.length:=by omega
    have g1:(x.mems.map memC)[i]?=some (memC x.mems[i]):=by simp [hlt]
    have g2:(v.items.map valC)[i]?=some (valC v.items[i]):=by simp [hlt2]
    have hw:=q0W (i:=i) (by omega)
    have hx:=hf x.mems[i] (List.getElem_mem _) v.items[i] (List.getElem_mem _)
    rw [List.drop_eq_getElem_cons hlt,List.drop_eq_getElem_cons hlt2,q4n] at hs
    generalize x.mems[i]=m at *
    generalize v.items[i]=u at *
    simp only [evA,memC,q03] at g1 g2 hx
    cases hfu:f m.ty u with
    | true =>
     rw [hfu] at hx hs
     simp [q3G,-Option.bind_some,-Int.toNat_lt,-List.map_map,List.range_succ,e3,e4,m4,e6,m6,e150,e151,e152,hlt',g1,g2,hx,hw]
     refine ih hlt _ ⟨?_,?_,?_,?_,?_,?_,?_,?_,by simpa using hs⟩ <;> simp [e3,e4,m4,e6,m6,e150,e151]
    | false =>
     rw [hfu] at hx hs
     simp [q3G,-Option.bind_some,-Int.toNat_lt,-List.map_map,List.range_succ,e3,e4,m4,e6,m6,e150,e151,e152,hlt',g1,g2,hx]
     exact hk' _ _ (.inr ⟨rfl,by rw [<- hs]; rfl,by simp⟩)
   ·have hlt':¬ (i:Int)<x.mems.length:=by omega
    simp [q3G,-Option.bind_some,-Int.toNat_lt,-List.map_map,List.range_succ,e151,e152,hlt']
    rw [List.drop_eq_nil_of_le (by omega),q4n] at hs
    ·exact hk' _ _ (.inl ⟨rfl,hs.symm⟩)
    ·intro m r v' q h; cases h
  ·simp [-Option.bind_some,-Int.toNat_lt,-List.map_map,List.range_succ]
  ·rcases h with ⟨rfl,h1⟩ | ⟨rfl,h1,h2⟩
   ·simp [-Option.bind_some,-Int.toNat_lt,-List.map_map,List.range_succ,h1]
   ·simp [-Option.bind_some,-Int.toNat_lt,-List.map_map,List.range_succ,h1,h2]
 ·have c1':¬ (v.items.length:Int)=x.mems.length:=by omega
  simp [q06,-Option.bind_some,-Int.toNat_lt,-List.map_map,List.range_succ,ht0,ht1,h0,g,hp,hk,hv,c1,c1']
theorem fits_ev6 (sn:Bool) (S:List Typ) (t:Int) (x:Typ) (v:Vl) (f:Int->Vl->Bool) (h0:0<=t) (ht1:¬ (S.length:Int)<=t) (g:(S.map typC)[t.toNat]?=some (typC x)) (hk:x.kind=6) (hv:v.kind=6) (hp:evA 109 [.agg (valC v)] (.bool true)) (hm:evA 112 [.agg (typC x),.int .i64 v.id] (memA x.mems v.id)) (hf:∀ m∈x.mems,∀ u∈v.items,evA 82 [schA sn S,.int .i64 m.ty,.agg (valC u),.bool true] (.bool (f m.ty u))):evA 82 [schA sn S,.int .i64 t,.agg (valC v),.bool true] (.bool (q4u f x.mems[(q5u x.mems v.id).toNat]? (decide (0<=q5u x.mems v.id)) v.rest.isEmpty v.items)):=by
 have ht0:¬ t<0:=by omega
 simp only [evA,typC,q03,hk,hv] at hp g
 refine q00 (c:=q06) rfl rfl ?_
 rw [q03]
 simp only [evA,typC,memA,hk] at hm
 have hix:=idxI_some (fun m:Mem=>decide (m.id=v.id)) x.mems
 have hge:=q2U (fun m:Mem=>decide (m.id=v.id)) x.mems
 change q5u x.mems v.id≠-1->_ at hix
 change -1<=q5u x.mems v.id at hge
 change ∀ h:q5u x.mems v.id≠-1,∃ y,x.mems[(q5u x.mems v.id).toNat]?=some y/\_ at hix
 generalize q5u x.mems v.id=ix at *
 by_cases c1:0<=ix
 ·simp only [c1,decide_true] at hm
  obtain ⟨m,hm1,_⟩:=hix (by omega)
  have hmx:max ix 0=ix:=Int.max_eq_left c1
  rw [hmx] at hm
  have g2:(x.mems.map memC)[ix.toNat]?=some (memC m):=by rw [List.getElem?_map,hm1]; rfl
  simp only [memC] at g2
  rw [hm1]
  by_cases c2:v.items.length=1
  ·obtain ⟨u,hu⟩:=List.length_eq_one_iff.1 c2
   have hf:=hf m (List.mem_of_getElem? hm1) u (by rw [hu]; simp)
   simp only [evA,q03] at hf
   rw [hu] at hp ⊢
   simp only [q03,List.map_cons,List.map_nil] at hp
   by_cases c3:v.rest=[]
   ·rw [c3] at hp ⊢
    simp only [List.map_nil] at hp
    simp [q06,-Option.bind_some,-Int.toNat_lt,-List.map_map,List.range_succ,ht0,ht1,h0,g,hp,hk,hv,hm,g2,c1,hf,q03,q4u]
   ·simp [q06,-Option.bind_some,-Int.toNat_lt,-List.map_map,List.range_succ,ht0,ht1,h0,g,hp,hk,hv,hm,g2,c1,c3,q03,q4u]
  ·have c2':¬ (v.items.length:Int)=1:=by omega
   rw [q8L _ _ _ _ _ c2]
   simp [q06,-Option.bind_some,-Int.toNat_lt,-List.map_map,List.range_succ,ht0,ht1,h0,g,hp,hk,hv,hm,g2,c1,c2']
 ·simp only [c1,decide_false] at hm
  rw [decide_eq_false c1,unionFit_no]
  cases ho:x.opn <;> simp only [ho] at hm g
  ·simp [q06,-Option.bind_some,-Int.toNat_lt,-List.map_map,List.range_succ,ht0,ht1,h0,g,hp,hk,hv,hm,ho]
  ·simp [q06,-Option.bind_some,-Int.toNat_lt,-List.map_map,List.range_succ,ht0,ht1,h0,g,hp,hk,hv,hm,ho]
theorem fits_ev8 (sn:Bool) (S:List Typ) (t:Int) (x:Typ) (v:Vl) (f:Int->Vl->Bool) (h0:0<=t) (ht1:¬ (S.length:Int)<=t) (g:(S.map typC)[t.toNat]?=some (typC x)) (hk:x.kind=8) (hv:v.kind=8) (hp:evA 109 [.agg (valC v)] (.bool true)) (hr:v.rest=[]) (hmx:x.max<=50) (hi64:∀ k∈v.keys,i64R k.i) (he:evA 113 [schA sn S,.int .i64 x.elem,.sl v.xn (v.items.map valC),.bool true] (.bool (v.items.all (f x.elem)))) (hke:evA 113 [schA sn S,.int .i64 x.key,.sl v.kn (v.keys.map valC),.bool true] (.bool (v.keys.all (f x.key)))):evA 82 [schA sn S,.int .i64 t,.agg (valC v),.bool true] (.bool (decide ((v.keys.length:Int)<=x.max)&&decide (v.items.length=v.keys.length)&&v.keys.all (f x.key)&&ascV v.keys&&v.items.all (f x.elem))):=by
 have ht0:¬ t<0:=by omega
 simp only [evA,typC,q03,hk,hv] at hp g
 refine q00 (c:=q06) rfl rfl ?_
 rw [q03]
 simp only [hr,List.map_nil] at hp ⊢
 simp only [evA] at he hke
 generalize v.items.all (f x.elem)=E at *
 generalize v.keys.all (f x.key)=KE at *
 by_cases c1:x.max<v.keys.length
 ·have c1':¬ (v.keys.length:Int)<=x.max:=by omega
  simp [q06,-Option.bind_some,-Int.toNat_lt,-List.map_map,List.range_succ,ht0,ht1,h0,g,hp,hk,hv,hr,c1,c1']
 have c1':(v.keys.length:Int)<=x.max:=by omega
 have hkl:v.keys.length<=50:=by omega
 by_cases c2:v.items.length=v.keys.length
 case neg =>
  have c2':¬ (v.items.length:Int)=v.keys.length:=by omega
  simp [q06,-Option.bind_some,-Int.toNat_lt,-List.map_map,List.range_succ,ht0,ht1,h0,g,hp,hk,hv,hr,c1,c1',c2,c2']
 cases KE with
 | false=>simp [q06,-Option.bind_some,-Int.toNat_lt,-List.map_map,List.range_succ,ht0,ht1,h0,g,hp,hk,hv,hr,c1,c1',c2,hke]
 | true =>
  simp [q06,-Option.bind_some,-Int.toNat_lt,-List.map_map,List.range_succ,ht0,ht1,h0,g,hp,hk,hv,hr,c1,c1',c2,hke]
  refine q0h (v.keys.length - 1) (fun i s=>(s.env 3).v=.bool true/\(s.env 4).v=.ptr 4 1 0/\s.mem 4 1=some [⟨.sl sn (S.map typC),.no⟩]/\(s.env 9).v=.ptr 9 3 0/\s.mem 9 3=some (q12 x)/\(s.env 6).v=.ptr 6 1 0/\s.mem 6 1=some (valRow v)/\(s.env 20).v=.int .i64 ((i + 1:Nat):Int)/\ascV (v.keys.drop i)=ascV v.keys)
   (fun e s=>(e=.exit 5/\ascV v.keys=true/\(s.env 3).v=.bool true/\(s.env 4).v=.ptr 4 1 0/\s.mem 4 1=some [⟨.sl sn (S.map typC),.no⟩]/\(s.env 9).v=.ptr 9 3 0/\s.mem 9 3=some (q12 x)/\(s.env 6).v=.ptr 6 1 0/\s.mem 6 1=some (valRow v))\/(e=.ret/\ascV v.keys=false/\(s.env 8).v=.bool false)) (fun i hi s k h ih hk'=>?_) _ _ ?_ (fun e s h=>?_)
  ·obtain ⟨e3,e4,m4,e9,m9,e6,m6,e20,hs⟩:=h
   refine q04 ?_
   by_cases hlt:i<v.keys.length - 1
   ·have hl1:i<v.keys.length:=by omega
    have hl2:i + 1<v.keys.length:=by omega
    have hx:=vcmp_ev v.keys[i] v.keys[i + 1] (hi64 _ (List.getElem_mem _)) (hi64 _ (List.getElem_mem _))
    have g1:(v.keys.map valC)[i]?=some (valC v.keys[i]):=by simp [hl1]
    have g2:(v.keys.map valC)[i + 1]?=some (valC v.keys[i + 1]):=by simp [hl2]
    rw [List.drop_eq_getElem_cons hl1,List.drop_eq_getElem_cons hl2,ascV] at hs
    have hs':(decide (vcmp v.keys[i] v.keys[i + 1]<0)&&ascV (v.keys.drop (i + 1)))=ascV v.keys:=by rw [<- hs,List.drop_eq_getElem_cons hl2]
    clear hs
    generalize v.keys[i]=a at *
    generalize v.keys[i + 1]=b at *
    obtain ⟨z,hz⟩:∃ z:Int,z=((i + 1:Nat):Int):=⟨_,rfl⟩
    obtain ⟨y,hy⟩:∃ y:Int,y=(i:Int):=⟨_,rfl⟩
    rw [<- hz] at e20
    have hz0:0<=z:=by omega
    have hy0:0<=y:=by omega
    have hlz:z<v.keys.length:=by omega
    have hwm:IntKind.i64.wrap (z - 1)=y:=by rw [IntWalk.i64_in _ (by omega)]; omega
    have hwz:IntKind.i64.wrap (z + 1)=((i + 1 + 1:Nat):Int):=by rw [IntWalk.i64_in _ (by omega)]; omega
    rw [show i=y.toNat from by omega] at g1
    rw [show i + 1=z.toNat from by omega] at g2
    simp only [evA,q03] at g1 g2 hx
    by_cases hc:vcmp a b<0
    ·have hc':¬ 0<=vcmp a b:=by omega
     simp [q3m,-Option.bind_some,-Int.toNat_lt,-List.map_map,List.range_succ,e6,m6,e20,hlz,hz0,hy0,hwm,g1,g2,hx,hc',hwz]
     refine ih hlt _ ⟨?_,?_,?_,?_,?_,?_,?_,?_,by rw [<- hs',decide_eq_true hc]; rfl⟩ <;> simp [e6,m6,e3,e4,m4,e9,m9]
    ·have hc':0<=vcmp a b:=by omega
     simp [q3m,-Option.bind_some,-Int.toNat_lt,-List.map_map,List.range_succ,e6,m6,e20,hlz,hz0,hy0,hwm,g1,g2,hx,hc']
     exact hk' _ _ (.inr ⟨rfl,by rw [<- hs',decide_eq_false hc]; rfl,by simp⟩)
   ·obtain ⟨z,hz⟩:∃ z:Int,z=((i + 1:Nat):Int):=⟨_,rfl⟩
    rw [<- hz] at e20
    have hlz:¬ z<v.keys.length:=by omega
    have hasc:ascV (v.keys.drop i)=true:=by
     match hd:v.keys.drop i with
     | []=>rfl
     | [_]=>rfl
     | a :: b :: r=>have:=congrArg List.length hd; simp at this; omega
    rw [hasc] at hs
    simp [q3m,-Option.bind_some,-Int.toNat_lt,-List.map_map,List.range_succ,e6,m6,e20,hlz]
    exact hk' _ _ (.inl ⟨rfl,hs.symm,by simp [e3],by simp [e4],by simp [m4],by simp [e9],by simp [m9],by simp [e6],by simp [m6]⟩)
  ·simp [hk,hv,hr]
  ·rcases h with ⟨rfl,h1,e3,e4,m4,e9,m9,e6,m6⟩ | ⟨rfl,h1,h2⟩
   ·simp [-Option.bind_some,-Int.toNat_lt,-List.map_map,List.range_succ,h1,e3,e4,m4,e9,m9,e6,m6,he,hk]
   ·simp [-Option.bind_some,-Int.toNat_lt,-List.map_map,List.range_succ,h1,h2]
def goodS (S:List Typ):Prop:=∀ x∈S,q0N x=true/\x.fine
theorem good_max {x:Typ} (h:q0N x=true) (hk:x.kind=8):x.max<=50:=by
 unfold q0N q62 at h
 simp [hk] at h
 omega
theorem rest_fit (f:Int->Vl->Bool) (x:Typ) (v:Vl) (hk:v.kind=x.kind) (hz:q2K v=true) (hr:v.rest≠[]):fitK f x v=false:=by
 have hre:v.rest.isEmpty=false:=by simpa using hr
 by_cases h5:x.kind=5
 ·simp [fitK,h5,hre]
 ·by_cases h6:x.kind=6
  ·simp [fitK,h6,hre,unionFit_re]
  ·simp [q2K,hk,h5,h6,hr] at hz
theorem fits_evO (sn:Bool) (S:List Typ) (t:Int) (v:Vl) (h:q0D S.length t=true):evA 82 [schA sn S,.int .i64 t,.agg (valC v),.bool true] (.bool false):=by
 refine q00 (c:=q06) rfl rfl ?_
 rw [q03]
 by_cases h0:t<0
 ·simp [q06,-Option.bind_some,-Int.toNat_lt,-List.map_map,List.range_succ,h0]
 ·have h1:(S.length:Int)<=t:=by simpa [q0D,h0] using h
  simp [q06,-Option.bind_some,-Int.toNat_lt,-List.map_map,List.range_succ,h0,h1]
theorem fits_evK (sn:Bool) (S:List Typ) (t:Int) (x:Typ) (v:Vl) (h0:0<=t) (ht1:¬ (S.length:Int)<=t) (g:(S.map typC)[t.toNat]?=some (typC x)) (hk:¬ v.kind=x.kind):evA 82 [schA sn S,.int .i64 t,.agg (valC v),.bool true] (.bool false):=by
 have ht0:¬ t<0:=by omega
 simp only [typC] at g
 refine q00 (c:=q06) rfl rfl ?_
 rw [q03]
 simp [q06,-Option.bind_some,-Int.toNat_lt,-List.map_map,List.range_succ,ht0,ht1,h0,g,hk]
theorem fits_evZ (sn:Bool) (S:List Typ) (t:Int) (x:Typ) (v:Vl) (h0:0<=t) (ht1:¬ (S.length:Int)<=t) (g:(S.map typC)[t.toNat]?=some (typC x)) (hk:v.kind=x.kind) (hp:evA 109 [.agg (valC v)] (.bool false)):evA 82 [schA sn S,.int .i64 t,.agg (valC v),.bool true] (.bool false):=by
 have ht0:¬ t<0:=by omega
 simp only [evA,typC,q03,hk] at hp g
 refine q00 (c:=q06) rfl rfl ?_
 rw [q03]
 simp [q06,-Option.bind_some,-Int.toNat_lt,-List.map_map,List.range_succ,ht0,ht1,h0,g,hp,hk]
theorem fits_ev (sn:Bool) (S:List Typ) (hS:goodS S):∀ (n:Nat) (t:Int) (v:Vl),SizeOf.sizeOf v<n->v.ok->v.i64->evA 82 [schA sn S,.int .i64 t,.agg (valC v),.bool true] (.bool (fitN S n t v)):=by
 intro n
 induction n with
 | zero=>intro t v h; omega
 | succ n ih =>
  intro t v hn hok h64
  rw [fitN]
  cases ho:q0D S.length t with
  | true=>exact fits_evO sn S t v ho
  | false =>
   obtain ⟨h0,ht1⟩:0<=t/\¬ (S.length:Int)<=t:=by
    simp [q0D] at ho
    omega
   have hlt:t.toNat<S.length:=by omega
   have hmem:S[t.toNat]∈S:=List.getElem_mem _
   have g:(S.map typC)[t.toNat]?=some (typC S[t.toNat]):=by rw [List.getElem?_map,List.getElem?_eq_getElem hlt]; rfl
   rw [List.getElem?_eq_getElem hlt]
   generalize S[t.toNat]=x at *
   obtain ⟨hgx,hfx⟩:=hS x hmem
   have hkr:=q4X hgx
   simp only [Bool.not_false,Bool.true_and]
   by_cases hk:v.kind=x.kind
   case neg=>rw [decide_eq_false hk]; exact fits_evK sn S t x v h0 ht1 g hk
   rw [decide_eq_true hk]
   simp only [Bool.true_and]
   have hp:=proper_ev v (by rw [hk]; exact hkr)
   cases hz:q2K v with
   | false=>rw [hz] at hp; exact fits_evZ sn S t x v h0 ht1 g hk hp
   | true =>
    rw [hz] at hp
    simp only [Bool.true_and]
    rw [Vl.ok_def] at hok
    rw [Vl.i64_def] at h64
    obtain ⟨o1,o2,o3,o4,o5,o6⟩:=hok
    obtain ⟨j1,j2,j3⟩:=h64
    have hit:∀ u∈v.items,∀ t',evA 82 [schA sn S,.int .i64 t',.agg (valC u),.bool true] (.bool (fitN S n t' u)):=fun u hu t'=>ih t' u (by have:=Vl.items_lt v u hu; omega) (o6 u hu) (j3 u hu)
    have hke:∀ u∈v.keys,∀ t',evA 82 [schA sn S,.int .i64 t',.agg (valC u),.bool true] (.bool (fitN S n t' u)):=fun u hu t'=>ih t' u (by have:=Vl.keys_lt v u hu; omega) (o5 u hu) (j2 u hu)
    have hmlen:x.mems.length<=9223372036854775807:=hfx.1.2.1
    have hslen:x.syms.length<=9223372036854775807:=hfx.1.1
    unfold fitK
    have hv:=hk
    rcases q8O x.kind with e | e | e | e | e | e | e | e | e | e
    all_goals try rw [e] at hv
    ·have r:=fits_ev1 sn S t x v (fitN S n) h0 ht1 g e hv hp; simpa [e] using r
    ·have r:=fits_ev2 sn S t x v (fitN S n) h0 ht1 g e hv hp; simpa [e] using r
    ·have r:=fits_ev3 sn S t x v (fitN S n) h0 ht1 g e hv hp; simpa [e] using r
    ·have r:=fits_ev4 sn S t x v (fitN S n) h0 ht1 g e hv hp (sym_ev x v.id hslen); simpa [e] using r
    ·have r:=fits_ev5 sn S t x v (fitN S n) h0 ht1 g e hv hp hmlen (fun m _ u hu=>hit u hu m.ty); simpa [e] using r
    ·have r:=fits_ev6 sn S t x v (fitN S n) h0 ht1 g e hv hp (mem_ev x v.id hmlen) (fun m _ u hu=>hit u hu m.ty); simpa [e] using r
    ·have r:=fits_ev7 sn S t x v (fitN S n) h0 ht1 g e hv hp (each_ev sn S x.elem (fitN S n x.elem) v.items o2 v.xn fun u hu=>hit u hu x.elem); simpa [e] using r
    ·have r:=fits_ev8 sn S t x v (fitN S n) h0 ht1 g e hv hp (by simp [q2K,hv] at hz; simp [hz]) (good_max hgx e) (fun u hu=>((Vl.i64_def u).1 (j2 u hu)).1) (each_ev sn S x.elem (fitN S n x.elem) v.items o2 v.xn fun u hu=>hit u hu x.elem) (each_ev sn S x.key (fitN S n x.key) v.keys o1 v.kn fun u hu=>hke u hu x.key); simpa [e] using r
    ·have r:=fits_ev9 sn S t x v (fitN S n) h0 ht1 g e hv hp (each_ev sn S x.elem (fitN S n x.elem) v.items o2 v.xn fun u hu=>hit u hu x.elem); simpa [e] using r
    ·exact absurd hkr e
theorem rzero_ev (v:Vl) (h:1<=v.kind/\v.kind<=9):evA 94 [.agg (valC v)] (.bool (q2K v)):=by
 rcases q8O v.kind with e | e | e | e | e | e | e | e | e | e
 ·exact rzero_ev1 v e
 ·exact rzero_ev2 v e
 ·exact rzero_ev3 v e
 ·exact rzero_ev4 v e
 ·exact rzero_ev5 v e
 ·exact rzero_ev6 v e
 ·exact rzero_ev7 v e
 ·exact rzero_ev8 v e
 ·exact rzero_ev9 v e
 ·exact absurd h e
theorem rest_ev (x:Typ) (b:Bool):evA 97 [.agg (typC x),.sl b []] (.bool true):=by
 refine q00 (c:=q5g) rfl rfl ?_
 simp [q5g,-Option.bind_some,-Int.toNat_lt,-List.map_map,List.range_succ,typC]
 refine q0h 0 (fun i s=>(s.env 1).v=.sl b []/\(s.env 5).v=.int .i64 0) (fun e s=>e=.exit 0) (fun i hi s k h ih hk=>?_) _ _ ?_ (fun e s h=>?_)
 ·obtain ⟨e1,e5⟩:=h
  refine q04 ?_
  simp [q6C,-Option.bind_some,-Int.toNat_lt,-List.map_map,List.range_succ,e1,e5]
  exact hk _ _ rfl
 ·simp
 ·subst h
  simp [-Option.bind_some,-Int.toNat_lt,-List.map_map,List.range_succ]
theorem fit_evR (sn:Bool) (S:List Typ) (t:Int) (x:Typ) (v:Vl) (h0:0<=t) (ht1:¬ (S.length:Int)<=t) (g:(S.map typC)[t.toNat]?=some (typC x)) (hk:v.kind=x.kind) (hp:evA 94 [.agg (valC v)] (.bool true)) (hr:v.rest≠[]):evA 77 [schA sn S,.int .i64 t,.agg (valC v),.bool true] (.bool false):=by
 have ht0:¬ t<0:=by omega
 have hr2:0<v.rest.length:=by
  have:v.rest.length≠0:=fun h=>hr (List.eq_nil_of_length_eq_zero h)
  omega
 simp only [evA,typC,q03,hk] at hp g
 refine q00 (c:=q08) rfl rfl ?_
 rw [q03]
 simp [q08,-Option.bind_some,-Int.toNat_lt,-List.map_map,List.range_succ,ht0,ht1,h0,g,hp,hk,hr,hr2]
theorem fit_evO (sn:Bool) (S:List Typ) (t:Int) (v:Vl) (h:q0D S.length t=true):evA 77 [schA sn S,.int .i64 t,.agg (valC v),.bool true] (.bool false):=by
 refine q00 (c:=q08) rfl rfl ?_
 rw [q03]
 by_cases h0:t<0
 ·simp [q08,-Option.bind_some,-Int.toNat_lt,-List.map_map,List.range_succ,h0]
 ·have h1:(S.length:Int)<=t:=by simpa [q0D,h0] using h
  simp [q08,-Option.bind_some,-Int.toNat_lt,-List.map_map,List.range_succ,h0,h1]
theorem fit_evK (sn:Bool) (S:List Typ) (t:Int) (x:Typ) (v:Vl) (h0:0<=t) (ht1:¬ (S.length:Int)<=t) (g:(S.map typC)[t.toNat]?=some (typC x)) (hk:¬ v.kind=x.kind):evA 77 [schA sn S,.int .i64 t,.agg (valC v),.bool true] (.bool false):=by
 have ht0:¬ t<0:=by omega
 simp only [typC] at g
 refine q00 (c:=q08) rfl rfl ?_
 rw [q03]
 simp [q08,-Option.bind_some,-Int.toNat_lt,-List.map_map,List.range_succ,ht0,ht1,h0,g,hk]
theorem fit_evZ (sn:Bool) (S:List Typ) (t:Int) (x:Typ) (v:Vl) (h0:0<=t) (ht1:¬ (S.length:Int)<=t) (g:(S.map typC)[t.toNat]?=some (typC x)) (hk:v.kind=x.kind) (hp:evA 94 [.agg (valC v)] (.bool false)):evA 77 [schA sn S,.int .i64 t,.agg (valC v),.bool true] (.bool false):=by
 have ht0:¬ t<0:=by omega
 simp only [evA,typC,q03,hk] at hp g
 refine q00 (c:=q08) rfl rfl ?_
 rw [q03]
 simp [q08,-Option.bind_some,-Int.toNat_lt,-List.map_map,List.range_succ,ht0,ht1,h0,g,hp,hk]
theorem fit_ev (sn:Bool) (S:List Typ) (hS:goodS S):∀ (n:Nat) (t:Int) (v:Vl),SizeOf.sizeOf v<n->v.ok->v.i64->evA 77 [schA sn S,.int .i64 t,.agg (valC v),.bool true] (.bool (fitN S n t v)):=by
 intro n
 induction n with
 | zero=>intro t v h; omega
 | succ n ih =>
  intro t v hn hok h64
  rw [fitN]
  cases ho:q0D S.length t with
  | true=>exact fit_evO sn S t v ho
  | false =>
   obtain ⟨h0,ht1⟩:0<=t/\¬ (S.length:Int)<=t:=by
    simp [q0D] at ho
    omega
   have hlt:t.toNat<S.length:=by omega
   have hmem:S[t.toNat]∈S:=List.getElem_mem _
   have g:(S.map typC)[t.toNat]?=some (typC S[t.toNat]):=by rw [List.getElem?_map,List.getElem?_eq_getElem hlt]; rfl
   rw [List.getElem?_eq_getElem hlt]
   generalize S[t.toNat]=x at *
   obtain ⟨hgx,hfx⟩:=hS x hmem
   have hkr:=q4X hgx
   simp only [Bool.not_false,Bool.true_and]
   by_cases hk:v.kind=x.kind
   case neg=>rw [decide_eq_false hk]; exact fit_evK sn S t x v h0 ht1 g hk
   rw [decide_eq_true hk]
   simp only [Bool.true_and]
   have hp:=rzero_ev v (by rw [hk]; exact hkr)
   cases hz:q2K v with
   | false=>rw [hz] at hp; exact fit_evZ sn S t x v h0 ht1 g hk hp
   | true =>
    rw [hz] at hp
    simp only [Bool.true_and]
    rw [Vl.ok_def] at hok
    rw [Vl.i64_def] at h64
    obtain ⟨o1,o2,o3,o4,o5,o6⟩:=hok
    obtain ⟨j1,j2,j3⟩:=h64
    have hit:∀ u∈v.items,∀ t',evA 77 [schA sn S,.int .i64 t',.agg (valC u),.bool true] (.bool (fitN S n t' u)):=fun u hu t'=>ih t' u (by have:=Vl.items_lt v u hu; omega) (o6 u hu) (j3 u hu)
    have hke:∀ u∈v.keys,∀ t',evA 77 [schA sn S,.int .i64 t',.agg (valC u),.bool true] (.bool (fitN S n t' u)):=fun u hu t'=>ih t' u (by have:=Vl.keys_lt v u hu; omega) (o5 u hu) (j2 u hu)
    have hmlen:x.mems.length<=9223372036854775807:=hfx.1.2.1
    have hslen:x.syms.length<=9223372036854775807:=hfx.1.1
    by_cases hr:v.rest=[]
    case neg=>rw [rest_fit _ x v hk hz hr]; exact fit_evR sn S t x v h0 ht1 g hk hp hr
    unfold fitK
    have hv:=hk
    rcases q8O x.kind with e | e | e | e | e | e | e | e | e | e
    all_goals try rw [e] at hv
    ·have r:=fit_ev1 sn S t x v (fitN S n) h0 ht1 g e hv hp hr; simpa [e] using r
    ·have r:=fit_ev2 sn S t x v (fitN S n) h0 ht1 g e hv hp hr; simpa [e] using r
    ·have r:=fit_ev3 sn S t x v (fitN S n) h0 ht1 g e hv hp hr; simpa [e] using r
    ·have r:=fit_ev4 sn S t x v (fitN S n) h0 ht1 g e hv hp hr (rsym_ev x v.id hslen); simpa [e] using r
    ·have r:=fit_ev5 sn S t x v (fitN S n) h0 ht1 g e hv hp hr hmlen (rest_ev x v.rn) (fun m _ u hu=>hit u hu m.ty); simpa [e,hr] using r
    ·have r:=fit_ev6 sn S t x v (fitN S n) h0 ht1 g e hv hp hr (rmem_ev x v.id hmlen) (fun m _ u hu=>hit u hu m.ty); simpa [e] using r
    ·have r:=fit_ev7 sn S t x v (fitN S n) h0 ht1 g e hv hp hr (all_ev sn S x.elem (fitN S n x.elem) v.items o2 v.xn fun u hu=>hit u hu x.elem); simpa [e] using r
    ·have r:=fit_ev8 sn S t x v (fitN S n) h0 ht1 g e hv hp hr (good_max hgx e) (fun u hu=>((Vl.i64_def u).1 (j2 u hu)).1) (all_ev sn S x.elem (fitN S n x.elem) v.items o2 v.xn fun u hu=>hit u hu x.elem) (all_ev sn S x.key (fitN S n x.key) v.keys o1 v.kn fun u hu=>hke u hu x.key); simpa [e] using r
    ·have r:=fit_ev9 sn S t x v (fitN S n) h0 ht1 g e hv hp hr (all_ev sn S x.elem (fitN S n x.elem) v.items o2 v.xn fun u hu=>hit u hu x.elem); simpa [e] using r
    ·exact absurd hkr e
end Go.Proofs.YtdjomefkhdimaaaGreat
