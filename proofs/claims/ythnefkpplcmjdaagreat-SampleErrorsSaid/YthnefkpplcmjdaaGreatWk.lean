/- A part of the proof. -/
import Derived.Test.YthnefkpplcmjdaaGreatWf
set_option linter.all false
set_option maxRecDepth 100000
set_option maxHeartbeats 8000000
open Option renaming bind_some → J, map_eq_some_iff → ye
open List renaming range_succ → y0, map_map → y3, all_eq_true → y6, getElem?_eq_getElem → y7, getElem_mem → y8, mem_cons → yh, map_cons → yk, mem_cons_self → yl, mem_cons_of_mem → ym, length_map → yo, map_nil → yq, map_congr_left → yw, mem_map → yz, flatten_cons → yA, length_append → yC, mem_append → yD, length_cons → yE, getElem?_eq_none → yV
open Int renaming toNat_lt → y4
open Nat renaming le_refl → yg, le_trans → yt, succ_mul → yu, zero_add → yy
namespace Go.Proofs.YthnefkpplcmjdaaGreat
open Go
structure Prt where
 id:Int
 ty:Int
 flag:Int
structure Pz where
 k:Int
 a:Int
 b:Int
 c:Int
 pn:Bool
 parts:List Prt
def u8 (n:Int):Prop:=0<=n/\n<=255
def Prt.ok (x:Prt):Prop:=u8 x.id/\u8 x.ty/\u8 x.flag
def Pz.ok (x:Pz):Prop:=u8 x.k/\u8 x.a/\u8 x.b/\u8 x.c/\x.parts.length<=9223372036854775807/\∀p∈x.parts,p.ok
def Pz.kind (x:Pz):Int:=1+x.k%9
def Pz.low (x:Pz):Int:=x.a%7-3
def Pz.high (x:Pz):Int:=x.low+x.b%6
def oks (l:List Pz):Prop:=1<=l.length/\l.length<=5/\∀x∈l,x.ok
section
set_option maxHeartbeats 2000000
def Vl.of (k:Int)(b:Bool)(i:Int)(s:ByteArray)(d:Int):Vl:=.mk k b i s d true [] true [] true []
theorem A6 (k:Int)(b:Bool)(i:Int)(s:ByteArray)(d:Int):TC (.of k b i s d)=[.int .i64 k,.bool b,.int .i64 i,.str s,.int .i64 d,.sl true [],.sl true [],.sl true []]:=by
 rw[nC];rfl
end
def MB (m:Nat)(v:AV):Prop:=∀t n,m<=n->v.eA t n=v
def bT (m:Nat)(v:AV):Prop:=∀t n,m<=n->v.kill t n=v
theorem M3 {m m':Nat}(h:m<=m'){v:AV}(hv:bT m v):bT m' v:=fun t n hn=>hv t n (yt h hn)
theorem Lh {m t n o:Nat}(h:n<m):MB m (.ptr t n o):=fun t' n' h'=>by simp only[AV.eA];rw[if_neg (by omega)]
theorem Ci {m:Nat}{v:AV}(h:v.iA=true):MB m v:=fun t n _=>rZ h t n
theorem Ab {m:Nat}{v:AV}(h:MB m v):(v.leaf=true)->bT m v:=fun hl t n hn=>by
 have:=h t n hn;cases v<;>first|exact this|(simp[AV.leaf]at hl;done)
theorem jZ {m t n o:Nat}(h:n<m):bT m (.ptr t n o):=Lh h
theorem N3 {m t n:Nat}(hn:m<=n){v:AV}(hv:bT m v):v.kill t n=v:=hv t n hn
theorem Qq (v:AV)(t n t' n':Nat):(v.eA t n).eA t' n'=(v.eA t' n').eA t n:=by
 cases v with
 |ptr a b o=>by_cases h1:(a=t/\b=n)<;>by_cases h2:(a=t'/\b=n')<;>first|(simp only[AV.eA,if_pos h1,if_pos h2];done)|(simp only[AV.eA,if_pos h1,if_neg h2];done)|(simp only[AV.eA,if_neg h1,if_pos h2];done)|(simp only[AV.eA,if_neg h1,if_neg h2];done)
 |ref a b z o l c=>by_cases h1:(a=t/\b=n)<;>by_cases h2:(a=t'/\b=n')<;>first|(simp only[AV.eA,if_pos h1,if_pos h2];done)|(simp only[AV.eA,if_pos h1,if_neg h2];done)|(simp only[AV.eA,if_neg h1,if_pos h2];done)|(simp only[AV.eA,if_neg h1,if_neg h2];done)
 |mp a b=>by_cases h1:(a=t/\b=n)<;>by_cases h2:(a=t'/\b=n')<;>first|(simp only[AV.eA,if_pos h1,if_pos h2];done)|(simp only[AV.eA,if_pos h1,if_neg h2];done)|(simp only[AV.eA,if_neg h1,if_pos h2];done)|(simp only[AV.eA,if_neg h1,if_neg h2];done)
 |_=>rfl
theorem IR (l:List AV)(t n t' n':Nat):(l.map (AV.eA t n)).map (AV.eA t' n')=(l.map (AV.eA t' n')).map (AV.eA t n):=by
 rw[y3,y3];exact yw fun x _=>Qq x t n t' n'
theorem Wq (v:AV)(t n t' n':Nat):(v.UA t n).UA t' n'=(v.UA t' n').UA t n:=by
 cases v with
 |agg cs=>exact congrArg AV.agg (IR cs t n t' n')
 |ptr a b o=>by_cases h1:(a=t/\b=n)<;>by_cases h2:(a=t'/\b=n')<;>first|(simp only[AV.UA,AV.eA,if_pos h1,if_pos h2];done)|(simp only[AV.UA,AV.eA,if_pos h1,if_neg h2];done)|(simp only[AV.UA,AV.eA,if_neg h1,if_pos h2];done)|(simp only[AV.UA,AV.eA,if_neg h1,if_neg h2];done)
 |ref a b z o l c=>by_cases h1:(a=t/\b=n)<;>by_cases h2:(a=t'/\b=n')<;>first|(simp only[AV.UA,AV.eA,if_pos h1,if_pos h2];done)|(simp only[AV.UA,AV.eA,if_pos h1,if_neg h2];done)|(simp only[AV.UA,AV.eA,if_neg h1,if_pos h2];done)|(simp only[AV.UA,AV.eA,if_neg h1,if_neg h2];done)
 |mp a b=>by_cases h1:(a=t/\b=n)<;>by_cases h2:(a=t'/\b=n')<;>first|(simp only[AV.UA,AV.eA,if_pos h1,if_pos h2];done)|(simp only[AV.UA,AV.eA,if_pos h1,if_neg h2];done)|(simp only[AV.UA,AV.eA,if_neg h1,if_pos h2];done)|(simp only[AV.UA,AV.eA,if_neg h1,if_neg h2];done)
 |_=>rfl
theorem Ai (v:AV)(t n t' n':Nat):(v.kill t n).kill t' n'=(v.kill t' n').kill t n:=by
 cases v with
 |agg cs=>exact congrArg AV.agg (IR cs t n t' n')
 |fn f cs=>exact congrArg (AV.fn f) (IR cs t n t' n')
 |sA vs =>
  refine congrArg AV.sA ?_;rw[y3,y3];exact yw fun x _=>Wq x t n t' n'
 |ptr a b o=>by_cases h1:(a=t/\b=n)<;>by_cases h2:(a=t'/\b=n')<;>first|(simp only[AV.kill,AV.eA,if_pos h1,if_pos h2];done)|(simp only[AV.kill,AV.eA,if_pos h1,if_neg h2];done)|(simp only[AV.kill,AV.eA,if_neg h1,if_pos h2];done)|(simp only[AV.kill,AV.eA,if_neg h1,if_neg h2];done)
 |ref a b z o l c=>by_cases h1:(a=t/\b=n)<;>by_cases h2:(a=t'/\b=n')<;>first|(simp only[AV.kill,AV.eA,if_pos h1,if_pos h2];done)|(simp only[AV.kill,AV.eA,if_pos h1,if_neg h2];done)|(simp only[AV.kill,AV.eA,if_neg h1,if_pos h2];done)|(simp only[AV.kill,AV.eA,if_neg h1,if_neg h2];done)
 |mp a b=>by_cases h1:(a=t/\b=n)<;>by_cases h2:(a=t'/\b=n')<;>first|(simp only[AV.kill,AV.eA,if_pos h1,if_pos h2];done)|(simp only[AV.kill,AV.eA,if_pos h1,if_neg h2];done)|(simp only[AV.kill,AV.eA,if_neg h1,if_pos h2];done)|(simp only[AV.kill,AV.eA,if_neg h1,if_neg h2];done)
 |_=>rfl
theorem sX {m t n:Nat}{v:AV}(hv:bT m v):bT m (v.kill t n):=fun t' n' h=>by rw[Ai,hv t' n' h]
def OM (m:Nat)(e:Nat->WC):Prop:=∀t,bT m (e t).v
def U1 (m:Nat)(M:Nat->Nat->Option (List WC)):Prop:=∀t n r,M t n=some r->∀x∈r,bT m x.v
def NW (m:Nat)(M0 M:Nat->Nat->Option (List WC)):Prop:=∀t n,n<m->M t n=M0 t n
theorem OM.put {m:Nat}{e:Nat->WC}{d:Nat}{x:WC}(h:OM m e)(hx:bT m x.v):OM m (putE e d x):=fun t=>by
 rw[dI];split
 ·exact hx
 ·exact h t
theorem OM.mono {m m':Nat}(hm:m<=m'){e:Nat->WC}(h:OM m e):OM m' e:=fun t=>M3 hm (h t)
theorem OM.kill {m:Nat}{e:Nat->WC}(h:OM m e){t n:Nat}:OM m (H7 t n e):=fun j=>by
 rw[tZ,WC.rC];exact sX (h j)
theorem OM.same {m:Nat}{e:Nat->WC}(h:OM m e){t n:Nat}(hn:m<=n):H7 t n e=e:=funext fun j=>by
 rw[tZ];show(⟨(e j).v.kill t n,(e j).a⟩:WC)=e j;rw[N3 hn (h j)]
theorem U1.set {m:Nat}{M:Nat->Nat->Option (List WC)}{t n:Nat}{r:List WC}(h:U1 m M)(hr:∀x∈r,bT m x.v):U1 m (Pm M t n r):=fun t' n' r' he=>by
 rw[jV]at he;split at he
 ·injection he with he;subst he;exact hr
 ·exact h t' n' r' he
theorem U1.mono {m m':Nat}(hm:m<=m'){M:Nat->Nat->Option (List WC)}(h:U1 m M):U1 m' M:=fun t n r he x hx=>M3 hm (h t n r he x hx)
theorem U1.kill {m:Nat}{M:Nat->Nat->Option (List WC)}(h:U1 m M){t n:Nat}:U1 m (Hr t n M):=fun t' n' r' he x hx=>by
 rw[uZ]at he;split at he
 ·cases he
 ·obtain⟨r,hr,rfl⟩:=ye.1 he;obtain⟨y,hy,rfl⟩:=yz.1 hx;rw[WC.rC];exact sX (h t' n' r hr y hy)
theorem NW.refl {m:Nat}{M:Nat->Nat->Option (List WC)}:NW m M M:=fun _ _ _=>rfl
theorem NW.set {m:Nat}{M0 M:Nat->Nat->Option (List WC)}{t n:Nat}{r:List WC}(h:NW m M0 M)(hn:m<=n):NW m M0 (Pm M t n r):=fun t' n' h'=>by
 rw[jV,if_neg (by omega)];exact h t' n' h'
theorem NW.kill {m:Nat}{M0 M:Nat->Nat->Option (List WC)}(h:NW m M0 M)(h0:U1 m M0){t n:Nat}(hn:m<=n):NW m M0 (Hr t n M):=fun t' n' h'=>by
 rw[uZ,if_neg (by omega),h t' n' h'];cases hr:M0 t' n' with
 |none=>rfl
 |some r =>
  refine congrArg some ?_;have:r.map (WC.kill t n)=r.map id:=yw fun x hx=>by
   show(⟨x.v.kill t n,x.a⟩:WC)=x;rw[N3 hn (h0 t' n' r hr x hx)]
  rwa [List.map_id]at this
theorem Sb {m:Nat}{l:List (List AV)}(h:∀c∈l,∀v∈c,MB m v)(h2:∀c∈l,∀v∈c,v.leaf=true):∀x∈HC l,bT m x.v:=fun x hx=>by
 obtain⟨v,hv,rfl⟩:=yz.1 hx;obtain⟨c,hc,hv⟩:=List.mem_flatten.1 hv;exact Ab (h c hc v hv) (h2 c hc v hv)
theorem K9 {v:AV}(h:v.iA=true):v.leaf=true:=by
 cases v<;>first|rfl|(simp[AV.iA]at h;done)
theorem G5 {m:Nat}{l:List (List AV)}(h:WM l=true):∀x∈HC l,bT m x.v :=
 Sb (fun c hc v hv=>Ci (y6.1 (y6.1 h c hc) v hv)) (fun c hc v hv=>K9 (y6.1 (y6.1 h c hc) v hv))
section
set_option maxHeartbeats 400000
theorem J8 {l:List (List AV)}(h:WM l=true)(t n:Nat):(HC l).map (WC.kill t n)=HC l:=by
 have:(HC l).map (WC.kill t n)=(HC l).map id:=yw fun x hx=>by
  have:=G5 (m:=0) h x hx t n (Nat.zero_le _);show(⟨x.v.kill t n,x.a⟩:WC)=x;rw[this]
 rwa [List.map_id]at this
theorem Rm {sz:Nat}{L:List (List AV)}(h:∀c∈L,c.length=sz):xO (HC L) sz 0 L.length=some L:=by
 have ja:∀{L:List (List AV)},(∀c∈L,c.length=sz)->L.flatten.length=L.length*sz:=by
  intro L h
  induction L with
  |nil=>simp
  |cons c r ih =>
   simp only[yA,yC,yE];rw[ih fun c hc=>h c (ym _ hc),h c yl,yu];omega
 have hv:∀l:List AV,(l.map fun v=>(⟨v,An.no⟩:WC)).map (·.v)=l:=fun l=>by simp[Function.comp_def]
 unfold xO;rw[if_pos (by rw[HC,yo,ja h];omega)];congr 1;refine List.ext_getElem (by simp) fun i h1 h2=>?_
 simp only[List.getElem_map,List.getElem_range,yy];simp only[HC];rw[<- List.map_drop,<- List.map_take,hv]
 induction L generalizing i with
 |nil=>simp at h2
 |cons c r ih =>
  have hc:=h c yl;cases i with
  |zero=>simp[<- hc]
  |succ i =>
   simp only[yA,List.getElem_cons_succ];rw[yu,Nat.add_comm,<- hc,<- List.drop_drop];rw[List.drop_left,hc];exact ih (fun c hc=>h c (ym _ hc)) i (by simpa using h2) (by simpa using h2)
theorem ES (l:List (List AV))(k:Nat):(HC l).map (WC.strip k)=HC l:=by
 have:(HC l).map (WC.strip k)=(HC l).map id:=yw fun x hx=>by
  obtain⟨v,_,rfl⟩:=yz.1 hx;rfl
 rwa [List.map_id]at this
def MO (p:ByteArray):List AV:=[.str p,.int .i64 3,.bool false,.int .i64 0,.str p,.int .i64 0,.sl true [],.sl true [],.sl true []]
def Z2:List AV:=[.int .i64 3,.str ⟨#[]⟩,.int .i64 0,.int .i64 0,.int .i64 2,.sl true [],.sl true [],.int .i64 0,.int .i64 0,.bool false]
structure Ky (n0 n4 N:Nat)(fi:Nat->WC)(T Z:AV)(V:Nat->AV)(p0:ByteArray)(z c0 q0 i:Nat)(s:OC):Prop where
 e0:(s.env 0).v=.ptr 15 N 0
 e4:(s.env 4).v=.ptr 4 n4 0
 m4:s.mem 4 n4=some (Z2.map (⟨·,.no⟩))
 e7:∃(t n:Nat)(L:List ByteArray)(b:Bool),(s.env 7).v=.ref t n 9 0 L.length L.length/\s.mem t n=some (HC (L.map MO))/\(t=18\/t=17)/\n0<=n/\n<s.next/\0<L.length/\L.length<=3000/\(b=true->L.length=3000)/\(b=false->L.length=c0+i)/\∃aT aZ aB,s.mem 15 N=some [⟨T,aT⟩,⟨Z,aZ⟩,⟨.bool b,aB⟩]
 e9:∃(b:Bool)(Q:List ByteArray),(s.env 9).v=.sl b (Q.map fun p=>[.str p])/\Q.length=q0+i/\(∀p∈Q,p.size<=z+1)/\(b=true\/∃k,(s.env 9).a=.own k 9)
 e11:(s.env 11).v=.str p0
 e32:(s.env 32).v=.int .i64 i
 fr:(s.env 8).v=V 8/\(s.env 23).v=V 23/\(s.env 24).v=V 24/\(s.env 26).v=V 26/\(s.env 27).v=V 27/\(s.env 28).v=V 28
 gh:∀j,(s.gh j).v=(fi j).v
 lo:n0<=s.next
theorem str_in {r:RV}{n0 n4 N:Nat}{fi:Nat->WC}{T Z:AV}{V:Nat->AV}{p0:ByteArray}{z c0 q0:Nat}(hG:OM n0 fi)(hN:N<n0)(hz:z<=1)(hp:p0.size<=z)(hq:q0<=70000)(hT:∀t n,T.kill t n=T)(hZ:∀t n,Z.kill t n=Z)(hV:∀j t n,(V j).kill t n=V j)
  (s:OC) (k:Ex->OC->Option RV) (h:Ky n0 n4 N fi T Z V p0 z c0 q0 0 s) (hk:∀s',Ky n0 n4 N fi T Z V p0 z c0 q0 256 s'->k (.exit 4) s'=some r):OL dD PC PE s k=some r:=by
 refine ZC 256 (fun i s=>Ky n0 n4 N fi T Z V p0 z c0 q0 i s) (fun e s=>e=.exit 4/\Ky n0 n4 N fi T Z V p0 z c0 q0 256 s) (fun i hi s k h ih hk=>?_) s k h (fun e s' h=>by obtain⟨rfl,h⟩:=h;exact hk _ h);obtain⟨e0,e4,m4,⟨t,n,L,b,e7,m7,ht,wh,hn,xw,xp,ju,rm,aT,aZ,aB,m15⟩,⟨b9,Q,e9,hQ,bw,bz⟩,e11,e32,⟨f8,om,jo,dl,al,sw⟩,gh,lo⟩:=h;refine EC ?_;by_cases fa:i<256
 ·have ga:(i:Int)<256:=by omega
  have hw8:IntKind.u8.wrap (i:Int)=i:=by show(i:Int)%256=i;omega
  have xj:=cD (i:=i) (by omega);obtain⟨y,hy⟩:∃y,bytesOf [[AV.int IntKind.u8 (i:Int)]]=some [y]:=⟨_,by simp[bytesOf];rfl⟩;have tn:(⟨#[y]⟩:ByteArray).size=1:=rfl;have ra:p0.size+(⟨#[y]⟩:ByteArray).size<=9223372036854775807:=by omega
  have tt:(p0++⟨#[y]⟩:ByteArray).size<=z+1:=by rw[ByteArray.size_append];omega
  generalize hP:(p0++⟨#[y]⟩:ByteArray)=P at *
  have ov:aE 16 (Q.length+1)=true:=by rw[UD];omega
  have sb:PD 1 (Q.map fun p=>[AV.str p])=true:=by
   refine y6.2 fun c hc=>?_
   obtain⟨p,_,rfl⟩:=yz.1 hc;rfl
  have ou:PD 1 [[AV.str P]]=true:=rfl;have hQb:b9=true\/(b9=false/\∃k,(s.env 9).a=.own k 9):=by
   cases b9 with
   |true=>exact .inl rfl
   |false=>exact .inr ⟨rfl,bz.elim (fun h=>by cases h) id⟩
  have ab:¬t=0:=by omega
  have ht15:¬t=15:=by omega
  have ht4:¬t=4:=by omega
  have ht5:¬t=5:=by omega
  have gu:¬15=t:=by omega
  have gt4:¬4=t:=by omega
  simp only[Z2,yk,yq]at m4;by_cases hf:3000<=L.length
  ·have hf':(3000:Int)<=L.length:=by omega
   simp[PE,-J,-y4,-y3,y0,e32,ga,e11,e0,e7,e4,m4,e9,hw8,hy,ra,hP,SM];refine rM xE rfl rfl ?_;have ud:∀s':OC,(s'.env 0).v=(s.env 0).v->(s'.env 4).v=(s.env 4).v->s'.mem 4 n4=s.mem 4 n4->(s'.env 7).v=(s.env 7).v->s'.mem t n=s.mem t n->(∃aT aZ aB,s'.mem 15 N=some [⟨T,aT⟩,⟨Z,aZ⟩,⟨.bool true,aB⟩])->s.next<=s'.next->(s'.env 9).v=.sl false (Q.map (fun p=>[AV.str p])++[[AV.str P]])->(s'.env 9).a=.own 53 9->(s'.env 11).v=(s.env 11).v->(s'.env 32).v=.int .i64 ((i+1:Nat):Int)->(∀j,(s'.gh j).v=(s.gh j).v)->((s'.env 8).v=(s.env 8).v/\(s'.env 23).v=(s.env 23).v/\(s'.env 24).v=(s.env 24).v/\(s'.env 26).v=(s.env 26).v/\(s'.env 27).v=(s.env 27).v/\(s'.env 28).v=(s.env 28).v)->Ky n0 n4 N fi T Z V p0 z c0 q0 (i+1) s':=fun s' h0 h4 hm4 h7 hm7 iy hnx h9 h9a iq pm hg gq =>
    ⟨by rw[h0,e0],by rw[h4,e4],by rw[hm4,m4];rfl,⟨t,n,L,true,by rw[h7,e7],by rw[hm7,m7],ht,wh,by omega,xw,xp,fun _=>by omega,(fun h=>by cases h),iy⟩,⟨false,Q++[P],by rw[h9];simp,by simp[hQ];omega,fun p hp=>by
     rcases yD.1 hp with h|h
     ·exact bw p h
     ·simp at h;subst h;exact tt,.inr ⟨53,h9a⟩⟩,by rw[iq,e11],pm,⟨by rw[gq.1,f8],by rw[gq.2.1,om],by rw[gq.2.2.1,jo],by rw[gq.2.2.2.1,dl],by rw[gq.2.2.2.2.1,al],by rw[gq.2.2.2.2.2,sw]⟩,fun j=>by rw[hg j,gh j],by omega⟩
   rcases hQb with rfl|⟨rfl,kk,ha⟩
   ·simp [xE,-J,-y4,-y3,y0,pO,lO,jN,wX,hf',m15,e9,ov,sb,ou,xj,e32];refine ih fa _ (ud _ ?_ ?_ ?_ ?_ ?_ ?_ ?_ ?_ ?_ ?_ ?_ ?_ ?_)
    ·simp[e0]
    ·simp[e4]
    ·simp[m4]
    ·simp[e7]
    ·simp[m7,ht15,ht5,ES]
    ·simp[m15]
    ·dsimp only;omega
    ·simp
    ·simp
    ·simp[e11]
    ·simp
    ·intro j;have:¬ j + 63<63:=by omega
     simp[this]
    ·simp
   ·simp [xE,-J,-y4,-y3,y0,pO,lO,jN,wX,hf',m15,e9,ha,ov,sb,ou,xj,e32];refine ih fa _ (ud _ ?_ ?_ ?_ ?_ ?_ ?_ ?_ ?_ ?_ ?_ ?_ ?_ ?_)
    ·simp[e0]
    ·simp[e4]
    ·simp[m4]
    ·simp[e7]
    ·simp[m7,ht15,ht5,ES]
    ·simp[m15]
    ·dsimp only;omega
    ·simp
    ·simp
    ·simp[e11]
    ·simp
    ·intro j;have:¬ j + 63<63:=by omega
     simp[this]
    ·simp
  ·have hf':¬ (3000:Int)<=L.length:=by omega
   have hb:b=false:=by
    cases b with
    |false=>rfl
    |true=>exact absurd (ju rfl) (by omega)
   subst hb;have hLc:=rm rfl;have hraw:xO (HC (L.map MO)) 9 0 L.length=some (L.map MO):=by
    have:=Rm (sz:=9) (L:=L.map MO) (fun c hc=>by obtain⟨p,_,rfl⟩:=yz.1 hc;rfl)
    rwa [yo]at this
   have ta:aE 136 (L.length+1)=true:=by rw[UD];omega
   have helP:PD 9 [[AV.str P,.int .i64 3,.bool false,.int .i64 0,.str P,.int .i64 0,.sl true [],.sl true [],.sl true []]]=true:=rfl;have dv:(L.map MO++[[AV.str P,.int .i64 3,.bool false,.int .i64 0,.str P,.int .i64 0,.sl true [],.sl true [],.sl true []]]).flatten.all (AV.gB t n)=true:=by
    refine y6.2 fun v hv=>?_
    obtain⟨c,hc,hv⟩:=List.mem_flatten.1 hv;have:∃p,c=MO p:=by
     rcases yD.1 hc with hc|hc
     ·obtain⟨p,_,rfl⟩:=yz.1 hc;exact⟨p,rfl⟩
     ·simp at hc;exact⟨P,hc⟩
    obtain⟨p,rfl⟩:=this;simp only[MO,yh,List.not_mem_nil,or_false]at hv;rcases hv with rfl|rfl|rfl|rfl|rfl|rfl|rfl|rfl|rfl<;>rfl
   have xk:∀m:List ByteArray,WM (m.map MO)=true:=fun m=>y6.2 fun c hc=>by
    obtain⟨p,_,rfl⟩:=yz.1 hc;rfl
   have xz:17=t->¬s.next+6=n:=fun _=>by omega
   have kb:∀b,(AV.bool b).kill t n=.bool b:=fun _=>rfl
   have hghk:∀j,(s.gh j).v.kill t n=(s.gh j).v:=fun j=>by rw[gh j];exact hG j t n wh
   have ud:∀s':OC,(s'.env 0).v=.ptr 15 N 0->(s'.env 4).v=.ptr 4 n4 0->s'.mem 4 n4=s.mem 4 n4->(∃m,s.next<=m/\m<s'.next/\(s'.env 7).v=.ref 17 m 9 0 (L.length+1) (L.length+1)/\s'.mem 17 m=some (HC (L.map MO++[MO P])))->(∃aT aZ aB,s'.mem 15 N=some [⟨T,aT⟩,⟨Z,aZ⟩,⟨.bool false,aB⟩])->(s'.env 9).v=.sl false (Q.map (fun p=>[AV.str p])++[[AV.str P]])->(s'.env 9).a=.own 53 9->(s'.env 11).v=.str p0->(s'.env 32).v=.int .i64 ((i+1:Nat):Int)->(∀j,(s'.gh j).v=(s.gh j).v)->((s'.env 8).v=V 8/\(s'.env 23).v=V 23/\(s'.env 24).v=V 24/\(s'.env 26).v=V 26/\(s'.env 27).v=V 27/\(s'.env 28).v=V 28)->Ky n0 n4 N fi T Z V p0 z c0 q0 (i+1) s':=fun s' h0 h4 hm4 ⟨m,ji,hm2,h7,hm7⟩ iy h9 h9a iq pm hg gq =>
    ⟨h0,h4,by rw[hm4,m4];rfl,⟨17,m,L++[P],false,by rw[h7];simp,by rw[hm7];simp,.inr rfl,by omega,hm2,by simp,by simp;omega,(fun h=>by cases h),(fun _=>by simp;omega),iy⟩,⟨false,Q++[P],by rw[h9];simp,by simp[hQ];omega,fun p hp=>by
     rcases yD.1 hp with h|h
     ·exact bw p h
     ·simp at h;subst h;exact tt,.inr ⟨53,h9a⟩⟩,iq,pm,gq,fun j=>by rw[hg j,gh j],by omega⟩
   simp[PE,-J,-y4,-y3,y0,e32,ga,e11,e0,e7,e4,m4,e9,hw8,hy,ra,hP,SM];refine rM xE rfl rfl ?_;rcases hQb with rfl|⟨rfl,kk,ha⟩
   ·simp [xE,-J,-y4,-y3,y0,pO,lO,jN,wX,hf',m15,e9,ov,sb,ou,xj,e32,AV.nB,hraw,m7,ta,helP,dv,ab,ht5,Cl.pA,-y6,-List.flatten_append,-List.all_flatten,-List.all_append];refine ih fa _ (ud _ ?_ ?_ ?_ ⟨s.next + 6,?_,?_,?_,?_⟩ ?_ ?_ ?_ ?_ ?_ ?_ ?_)
    ·simp[e0,gu]
    ·simp[e4,gt4]
    ·simp[m4,ht4,gt4]
    ·omega
    ·dsimp only;omega
    ·simp
    ·simp[MO,xz,J8,xk,ES]
    ·simp[m15,gu,hT,hZ,kb,-AV.kill]
    ·simp
    ·simp
    ·simp[e11]
    ·simp
    ·intro j;have:¬ j + 63<63:=by omega
     simp[this,hghk,-AV.kill]
    ·simp[f8,om,jo,dl,al,sw,hV,-AV.kill]
    all_goals sorry
   ·simp [xE,-J,-y4,-y3,y0,pO,lO,jN,wX,hf',m15,e9,ha,ov,sb,ou,xj,e32,AV.nB,hraw,m7,ta,helP,dv,ab,ht5,Cl.pA,-y6,-List.flatten_append,-List.all_flatten,-List.all_append];refine ih fa _ (ud _ ?_ ?_ ?_ ⟨s.next + 6,?_,?_,?_,?_⟩ ?_ ?_ ?_ ?_ ?_ ?_ ?_)
    ·simp[e0,gu]
    ·simp[e4,gt4]
    ·simp[m4,ht4,gt4]
    ·omega
    ·dsimp only;omega
    ·simp
    ·simp[MO,xz,J8,xk,ES]
    ·simp[m15,gu,hT,hZ,kb,-AV.kill]
    ·simp
    ·simp
    ·simp[e11]
    ·simp
    ·intro j;have:¬ j + 63<63:=by omega
     simp[this,hghk,-AV.kill]
    ·simp[f8,om,jo,dl,al,sw,hV,-AV.kill]
    all_goals sorry
 ·have hi:i=256:=by omega
  subst hi;simp[PE,-J,-y4,-y3,y0,e32];exact hk _ _ ⟨rfl,⟨by simp[e0],by simp[e4],by simp[m4,Z2],⟨t,n,L,b,by simp[e7],by simp[m7],ht,wh,by dsimp only;omega,xw,xp,ju,rm,aT,aZ,aB,by simp[m15]⟩,⟨b9,Q,by simp[e9],hQ,bw,by simpa using bz⟩,by simp[e11],by simp[e32],by simp[f8,om,jo,dl,al,sw],fun j=>by simp[gh j],by dsimp only;omega⟩⟩
structure Dz (n0 n4 N:Nat)(fi:Nat->WC)(T Z:AV)(V:Nat->AV)(z c j:Nat)(s:OC):Prop where
 e0:(s.env 0).v=.ptr 15 N 0
 e4:(s.env 4).v=.ptr 4 n4 0
 m4:s.mem 4 n4=some (Z2.map (⟨·,.no⟩))
 e7:∃(t n:Nat)(L:List ByteArray),(s.env 7).v=.ref t n 9 0 L.length L.length/\s.mem t n=some (HC (L.map MO))/\(t=18\/t=17)/\n0<=n/\n<s.next/\0<L.length/\L.length<=3000/\L.length=c+256*j/\∃aT aZ aB,s.mem 15 N=some [⟨T,aT⟩,⟨Z,aZ⟩,⟨.bool false,aB⟩]
 e9:∃(b:Bool)(Q:List ByteArray),(s.env 9).v=.sl b (Q.map fun p=>[.str p])/\Q.length=256*j/\(∀p∈Q,p.size<=z+1)/\(b=true\/∃k,(s.env 9).a=.own k 9)
 e28:(s.env 28).v=.int .i64 j
 fr:(s.env 8).v=V 8/\(s.env 23).v=V 23/\(s.env 24).v=V 24/\(s.env 26).v=V 26/\(s.env 27).v=V 27
 gh:∀j,(s.gh j).v=(fi j).v
 lo:n0<=s.next
structure StrF (N:Nat)(fi:Nat->WC)(T Z:AV)(s:OC):Prop where
 e6:(s.env 6).v=.sl true []
 m15:∃aT aZ aB,s.mem 15 N=some [⟨T,aT⟩,⟨Z,aZ⟩,⟨.bool true,aB⟩]
 gh:∀j,(s.gh j).v=(fi j).v
theorem Zt {r:RV}{n0 n4 N:Nat}{fi:Nat->WC}{T Z:AV}{V:Nat->AV}{z c:Nat}(hG:OM n0 fi)(hN:N<n0)(hz:z<=1)(hT:∀t n,T.kill t n=T)(hZ:∀t n,Z.kill t n=Z)(hV:∀j t n,(V j).kill t n=V j){LV:List ByteArray}{b:Bool}(hLV:LV.length<=256)(hLs:∀p∈LV,p.size<=z)(eu:V 26=.sl b (LV.map fun p=>[.str p]))(h27:V 27=.int .i64 LV.length)
  (s:OC) (k:Ex->OC->Option RV) (h:Dz n0 n4 N fi T Z V z c 0 s) (hk:∀s',Dz n0 n4 N fi T Z V z c LV.length s'->k (.exit 2) s'=some r) (hr:∀s',StrF N fi T Z s'->k .ret s'=some r):OL dD PC TF s k=some r:=by
 refine ZC LV.length (fun j s=>Dz n0 n4 N fi T Z V z c j s) (fun e s=>(e=.exit 2/\Dz n0 n4 N fi T Z V z c LV.length s)\/(e=.ret/\StrF N fi T Z s)) (fun j hj s k h ih hk=>?_) s k h (fun e s' h=>by
  rcases h with⟨q1,q2⟩|⟨q1,q2⟩
  ·subst q1;exact hk _ q2
  ·subst q1;exact hr _ q2)
 obtain⟨e0,e4,m4,⟨t,n,L,e7,m7,ht,wh,hn,xw,xp,hLj,aT,aZ,aB,m15⟩,⟨b9,Q,e9,hQ,bw,bz⟩,e28,⟨f8,om,jo,dl,al⟩,gh,lo⟩:=h;rw[eu]at dl;rw[h27]at al;refine EC ?_;by_cases fa:j<LV.length
 ·have ga:(j:Int)<LV.length:=by omega
  have g1:(LV.map fun p=>[AV.str p])[j]?=some [AV.str LV[j]]:=by simp[fa]
  have oy:=hLs _ (y8 fa);generalize LV[j]=p0 at *
  have xj:=cD (i:=j) (by omega);simp[TF,-J,-y4,-y3,y0,dl,al,e28,ga,g1];refine str_in (N:=N) (n4:=n4) (T:=T) (Z:=Z) (V:=fun i=>if i=28 then .int .i64 j else V i) (p0:=p0) (z:=z) (c0:=c+256*j) (q0:=256*j) hG hN hz oy (by omega) hT hZ (fun i t n=>?_) _ _ ⟨?_,?_,?_,⟨t,n,L,false,?_,?_,ht,wh,?_,xw,xp,(fun h=>by cases h),(fun _=>by omega),aT,aZ,aB,?_⟩,⟨b9,Q,?_,by omega,bw,?_⟩,?_,?_,?_,?_,?_⟩ (fun s' h'=>?_)
  ·split
   ·rfl
   ·exact hV _ _ _
  ·simp[e0]
  ·simp[e4]
  ·simp[m4]
  ·simp[e7]
  ·simp[m7]
  ·dsimp only;omega
  ·simp[m15]
  ·simp[e9]
  ·simpa using bz
  ·simp
  ·simp
  ·simp[f8,om,jo,dl,al,e28,eu,h27]
  ·intro i;exact gh i
  ·dsimp only;omega
  ·obtain ⟨e0,e4,m4,⟨t,n,L',b',e7,m7,ht,wh,hn,hL0',hL1',ju,rm,aT,aZ,aB,m15⟩,⟨b9,Q',e9,hQ',hQs',hQa'⟩,e11,e32,⟨f8,om,jo,dl,al,sw⟩,gh',lo'⟩:=h';simp at f8 om jo dl al sw;cases b' with
   |false =>
    simp[-J,-y4,-y3,y0,e0,m15,sw,xj];refine ih fa _ ⟨?_,?_,?_,⟨t,n,L',?_,?_,ht,wh,?_,hL0',hL1',by have:=rm rfl;omega,aT,aZ,aB,?_⟩,⟨b9,Q',?_,by omega,hQs',?_⟩,?_,?_,?_,?_⟩
    ·simp[e0]
    ·simp[e4]
    ·simp[m4]
    ·simp[e7]
    ·simp[m7]
    ·dsimp only;omega
    ·simp[m15]
    ·simp[e9]
    ·simpa using hQa'
    ·simp
    ·simp[f8,om,jo,dl,al]
    ·intro i;exact gh' i
    ·dsimp only;omega
   |true =>
    simp[-J,-y4,-y3,y0,e0,m15];exact hk _ _ (.inr ⟨rfl,⟨by simp,⟨aT,aZ,aB,by simp[m15]⟩,fun i=>gh' i⟩⟩)
 ·have zo:j=LV.length:=by omega
  subst zo;simp[TF,-J,-y4,-y3,y0,dl,al,e28];exact hk _ _ (.inl ⟨rfl,⟨by simp[e0],by simp[e4],by simp[m4],⟨t,n,L,by simp[e7],by simp[m7],ht,wh,by dsimp only;omega,xw,xp,hLj,aT,aZ,aB,by simp[m15]⟩,⟨b9,Q,by simp[e9],hQ,bw,by simpa using bz⟩,by simp[e28],by simp[f8,om,jo,dl,al,eu,h27],fun i=>gh i,by dsimp only;omega⟩⟩)
end
section
set_option maxHeartbeats 400000
theorem Ha (lp:Oz)(b:C)(k:Ex->OC->Option RV)(s:OC):XN lp b k .ret s=k .ret s:=rfl
theorem againE (lp:Oz)(b:C)(k:Ex->OC->Option RV)(j:Nat)(s:OC):XN lp b k (.exit j) s=k (.exit j) s:=rfl
theorem x6 {r:RV}{N:Nat}{T Z:AV}{aT aZ aB a0 a1 a2:An}(s0:OC)(hG:OM s0.next s0.gh)(hN:N<s0.next)(hT:∀t n,T.kill t n=T)(hZ:∀t n,Z.kill t n=Z)(uw:s0.mem 15 N=some [⟨T,aT⟩,⟨Z,aZ⟩,⟨.bool false,aB⟩])(k:WC->OC->Option RV)
  (hk:∀a s',(∃aT aZ aB,s'.mem 15 N=some [⟨T,aT⟩,⟨Z,aZ⟩,⟨.bool true,aB⟩])->(∀j,(s'.gh j).v=(s0.gh j).v)->k ⟨.sl true [],a⟩ s'=some r):Gu dD PC 112 [⟨.ptr 15 N 0,a0⟩,⟨.agg Z2,a1⟩,⟨.int .i64 2,a2⟩] s0 k=some r:=by
 refine rM zG rfl rfl ?_;have hm:d8 false (.int .i64 2) (.int .i64 2)=some (.int .i64 2):=rfl;simp[zG,-J,-y4,-y3,y0,Z2,uw,hm];refine EC ?_;simp[ZG,-J,-y4,-y3,y0];refine Zt (N:=N) (n4:=s0.next) (T:=T) (Z:=Z) (V:=fun i=>if i=8\/i=26 then .sl false [[.str ⟨#[]⟩]]else if i=23 then .int .i64 2 else if i=24 then .int .i64 0 else if i=27 then .int .i64 1 else .undef) (z:=0) (c:=1) (LV:=[⟨#[]⟩]) (b:=false) hG hN (by omega) hT hZ (fun j t n=>?_) (by simp) (by intro p hp;simp at hp;subst hp;exact yg 0) (by simp) (by simp) _ _ ⟨?_,?_,?_,⟨18,s0.next+1,[⟨#[]⟩],?_,?_,.inl rfl,by omega,?_,by simp,by simp,by simp,aT,aZ,aB,?_⟩,⟨true,[],?_,rfl,by simp,.inl rfl⟩,?_,?_,?_,?_⟩ (fun s1 h1=>?_) (fun s1 h1=>?_)
 ·repeat' split
  all_goals rfl
 ·simp
 ·simp
 ·simp[Z2]
 ·simp
 ·simp[MO]
 ·dsimp only;omega
 ·simp[uw]
 ·simp
 ·simp
 ·simp
 ·intro j;rfl
 ·dsimp only;omega
 ·obtain ⟨e0,e4,m4,⟨t,n,L,e7,m7,ht,wh,hn,xw,xp,hLj,aT,aZ,aB,m15⟩,⟨b9,Q,e9,hQ,bw,bz⟩,e28,⟨f8,om,jo,dl,al⟩,gh,lo⟩:=h1;simp at f8 om jo dl al hQ;have xj:IntKind.i64.wrap (0 + 1)=1:=rfl;simp [-J,-y4,-y3,y0,e9,jo,xj];refine EC ?_;simp [ZG,-J,-y4,-y3,y0,om];refine Zt (N:=N) (n4:=s0.next) (T:=T) (Z:=Z) (V:=fun i=>if i=8\/i=26 then .sl b9 (Q.map fun p=>[.str p]) else if i=23 then .int .i64 2 else if i=24 then .int .i64 1 else if i=27 then .int .i64 256 else .undef) (z:=1) (c:=257) (LV:=Q) (b:=b9) hG hN (by omega) hT hZ (fun j t n=>?_) (by omega) (by simpa using bw) (by simp) (by simp [hQ]) _ _ ⟨?_,?_,?_,⟨t,n,L,?_,?_,ht,wh,?_,xw,xp,by simp at hLj; omega,aT,aZ,aB,?_⟩,⟨true,[],?_,rfl,by simp,.inl rfl⟩,?_,?_,?_,?_⟩ (fun s2 h2=>?_) (fun s2 h2=>?_)
  ·repeat' split
   all_goals rfl
  ·simp[e0]
  ·simp[e4]
  ·simp[m4]
  ·simp[e7]
  ·simp[m7]
  ·dsimp only;omega
  ·simp[m15]
  ·simp
  ·simp
  ·have:IntKind.i64.wrap 1=1:=rfl;simp[om,hQ,this]
  ·intro j;exact gh j
  ·dsimp only;omega
  ·obtain⟨_,_,_,⟨_,_,L2,_,_,_,_,_,_,h3,h4,_⟩,_⟩:=h2;omega
  ·obtain⟨e6,m15,gh2⟩:=h2;simp[-J,-y4,-y3,y0,Ha,pO,lO,jN,e6];rw[show s2.env 6=⟨.sl true [],(s2.env 6).a⟩from by rw[<- e6]];exact hk _ _ m15 fun j=>gh2 j
 ·obtain⟨e6,m15,gh2⟩:=h1;simp[-J,-y4,-y3,y0,Ha,pO,lO,jN,e6];rw[show s1.env 6=⟨.sl true [],(s1.env 6).a⟩from by rw[<- e6]];exact hk _ _ m15 fun j=>gh2 j
theorem gZ {m nt:Nat}{e g:Nat->WC}(h:OM m e)(h':OM m g):OM m (Py nt e g):=fun t=>by
 rw[aS];split
 ·exact h t
 ·exact h' _
theorem fZ {m:Nat}{xs:List WC}(h:∀x∈xs,bT m x.v):OM m (Rl xs):=fun t=>by
 rw[r9];by_cases hl:t<xs.length
 ·rw[List.getD_eq_getElem?_getD,y7 hl];exact h _ (y8 hl)
 ·rw[List.getD_eq_getElem?_getD,yV (by omega)];exact fun _ _ _=>rfl
theorem Bi {m:Nat}{xs:List AV}(h:∀x∈xs,bT m x):OM m (Jz xs):=fun t=>by
 rw[Gw];by_cases hl:t<xs.length
 ·rw[List.getD_eq_getElem?_getD,y7 hl];exact h _ (y8 hl)
 ·rw[List.getD_eq_getElem?_getD,yV (by omega)];exact fun _ _ _=>rfl
theorem w8 {m:Nat}{e:Nat->WC}(h:OM m e)(k:Nat):OM m (b6 k e):=fun t=>h t
def exT:List (List AV):=[[.int .i64 9,.str ⟨#[]⟩,.int .i64 0,.int .i64 0,.int .i64 0,.sl true [],.sl true [],.int .i64 0,.int .i64 1,.bool false],[.int .i64 1,.str ⟨#[]⟩,.int .i64 0,.int .i64 0,.int .i64 0,.sl true [],.sl true [],.int .i64 0,.int .i64 0,.bool false],Z2]
theorem Ja {r:RV}{N:Nat}{Z:AV}{a0 a1 a2:An}(s0:OC)(hG:OM s0.next s0.gh)(hN:N<s0.next)(hZ:∀t n,Z.kill t n=Z)(uw:∃aT aZ aB,s0.mem 15 N=some [⟨.sl false exT,aT⟩,⟨Z,aZ⟩,⟨.bool false,aB⟩])(k:WC->OC->Option RV)
  (hk:∀a s',(∃aT aZ aB,s'.mem 15 N=some [⟨.sl false exT,aT⟩,⟨Z,aZ⟩,⟨.bool true,aB⟩])->(∀j,(s'.gh j).v=(s0.gh j).v)->k ⟨.sl true [],a⟩ s'=some r):Gu dD PC 65 [⟨.ptr 15 N 0,a0⟩,⟨.int .i64 2,a1⟩,⟨.int .i64 2,a2⟩] s0 k=some r:=by
 obtain⟨aT,aZ,aB,uw⟩:=uw;refine rM WH rfl rfl ?_;simp[WH,-J,-y4,-y3,y0,exT,Z2,uw,SM];refine x6 (N:=N) (T:=.sl false exT) (Z:=Z) _ ?_ ?_ (fun _ _=>rfl) hZ (aT:=aT) (aZ:=aZ) (aB:=aB) ?_ _ (fun a s' hm hg=>?_)
 ·dsimp only;refine gZ ?_ (hG.mono (by omega))
  repeat (first|refine OM.put ?_ (fun _ _ _=>rfl)|refine OM.put ?_ (jZ (by omega))|refine fZ (fun x hx=>?_))
  simp at hx;rcases hx with rfl|rfl|rfl
  ·exact jZ (by omega)
  ·exact fun _ _ _=>rfl
  ·exact fun _ _ _=>rfl
 ·dsimp only;omega
 ·simp[uw,exT,Z2]
 ·simp [-J,-y4,-y3,y0,wX,pO,lO,jN];refine hk _ _ hm fun j=>?_
  have:¬j+190<190:=by omega
  simpa [U0,aS,this]using hg (j+190)
theorem Ck:IC 64 [ZT,.int .i64 0] (.sA [.int .i64 0,.int .i64 0]):=fS.run 10 (by kernel_rfl)
theorem Bk:IC 64 [ZT,.int .i64 1] (.sA [.int .i64 0,.int .i64 0]):=fS.run 10 (by kernel_rfl)
theorem Nk:IC 64 [ZT,.int .i64 2] (.sA [.int .i64 0,.int .i64 0]):=fS.run 10 (by kernel_rfl)
theorem Zi:IC 28 [ZT,.int .i64 2,.int .i64 2] (.sA [.sl true [],.int .i64 3]):=by
 have h0:=Ck;have h1:=Bk;have h2:=Nk;have hx:ZT=.agg [.sl false exT]:=rfl;rw[hx]at h0 h1 h2 ⊢;have hl:exT.length=3:=rfl;simp only[IC]at h0 h1 h2;refine mC (c:=nM) rfl rfl ?_;simp[nM,-J,-y4,-y3,y0,hl];have w1:IntKind.i64.wrap 1=1:=rfl;have w2:IntKind.i64.wrap 2=2:=rfl;have w3:IntKind.i64.wrap 3=3:=rfl;have r1:aE 8 1=true:=rfl;have r2:aE 8 2=true:=rfl;have r3:aE 8 3=true:=rfl;refine EC ?_;simp[FH,-J,-y4,-y3,y0,hl,h0,w1,r1];refine EC ?_;simp[FH,-J,-y4,-y3,y0,hl,h1,w1,w2,r2];refine EC ?_;simp[FH,-J,-y4,-y3,y0,hl,h2,w1,w2,w3,r3];refine EC ?_;simp[FH,-J,-y4,-y3,y0,againE,hl,w3,SM];refine Ja (N:=2) (Z:=.sl false [[.int .i64 0],[.int .i64 0],[.int .i64 0]]) _ ?_ ?_ (fun _ _=>rfl) ?_ _ (fun a s' hm hg=>?_)
 ·dsimp only;refine gZ ?_ (fun _ _ _ _=>rfl)
  repeat (first|refine OM.put ?_ (fun _ _ _=>rfl)|refine OM.put ?_ (jZ (by omega))|refine w8 ?_ _|refine fZ (fun x hx=>?_))
  refine Bi fun x hx=>?_
  simp at hx;rcases hx with rfl|rfl
  ·exact fun _ _ _=>rfl
  ·exact fun _ _ _=>rfl
 ·dsimp only;omega
 ·simp
 ·have g8:(s'.gh 8).v=.ptr 15 2 0:=by rw [hg 8]; simp [aS]
  obtain⟨aT,aZ,aB,m15⟩:=hm;simp[-J,-y4,-y3,y0,wX,pO,lO,jN,g8,m15]
end
section
set_option maxHeartbeats 400000
def awm:List ME:=⟨28,[ZT,.int .i64 2,.int .i64 2],none,(.sA [.sl true [],.int .i64 3],none)⟩::t5
theorem Xy:OD dD PC awm:=fS.cons Zi
theorem U9:IC 5 [] (.bool true):=Xy.run 3000 (by kernel_rfl)
end
end Go.Proofs.YthnefkpplcmjdaaGreat
