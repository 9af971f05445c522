/- A part of the proof. -/
import Derived.Test.YthnefkpplcmjdaaGreatWj
set_option linter.all false
set_option maxRecDepth 100000
set_option maxHeartbeats 8000000
open Option renaming bind_some → J, map_some → yp
open List renaming range_succ → y0, map_map → y3, getElem?_eq_getElem → y7, getElem_mem → y8, getElem?_map → yb, drop_eq_getElem_cons → yc, mem_cons → yh, map_cons → yk, length_map → yo, map_nil → yq, cons_append → yv, flatten_cons → yA, length_append → yC, length_cons → yE, nil_append → yF, eq_nil_of_length_eq_zero → yJ, getElem?_append_right → yN, mem_of_getElem? → yQ, getElem?_eq_none → yV
open Int renaming toNat_lt → y4
open Bool renaming and_eq_true → y9
open Nat renaming le_refl → yg, zero_add → yy
namespace Go.Proofs.YthnefkpplcmjdaaGreat
open Go
section
section
variable {α:Type}
structure XK (bt:α->α->Bool):Prop where
 irr:∀a,bt a a=false
 tr:∀a b c,bt a b=true->bt b c=true->bt a c=true
 neg:∀a b c,bt a b=false->bt b c=false->bt a c=false
theorem XK.asym {bt:α->α->Bool}(h:XK bt){a b:α}(h1:bt a b=true):bt b a=false:=by
 cases h2:bt b a with
 |false=>rfl
 |true=>have:=h.tr _ _ _ h1 h2;rw[h.irr]at this;cases this
variable (bt:α->α->Bool) (imp:Nat->(Nat->α)->α)
def zJ (l:Nat->α)(i:Nat):Nat->α:=fun j=>if j=i then(if bt (imp i l) (l i)then imp i l else l i)else l j
def E6 (l:Nat->α):Nat->Nat->α
 |0=>l
 |i+1=>zJ bt imp (E6 l i) i
def MX (N:Nat)(l:Nat->α):Nat->Nat->α
 |0=>l
 |k+1=>E6 bt imp (MX N l k) N
structure zP (N:Nat)(good:(Nat->α)->Prop)(used:Nat->(Nat->α)->Nat->Prop)(dep:α->Nat):Prop where
 keep:∀l i,good l->(∀u,u<N->dep (l u)<=N)->i<N->bt (imp i l) (l i)=true->good (zJ bt imp l i)
 kB:∀l t u,good l->t<N->used t l u->u<N
 sup:∀l t u,good l->t<N->used t l u->bt (imp t l) (l u)=false
 loc:∀l t i,good l->t<N->i<N->bt (imp i l) (l i)=true->good (zJ bt imp l i)->¬used t (zJ bt imp l i) i->bt (imp t (zJ bt imp l i)) (imp t l)=false/\∀u,used t l u->used t (zJ bt imp l i) u
 dp:∀l t,good l->t<N->dep (imp t l)<=1\/∃u,used t l u/\dep (imp t l)<=dep (l u)+1
variable {bt:α->α->Bool} {imp:Nat->(Nat->α)->α} {N:Nat} {good:(Nat->α)->Prop} {used:Nat->(Nat->α)->Nat->Prop} {dep:α->Nat}
def Wa (bt:α->α->Bool)(N:Nat)(l:Nat->α)(t m:Nat):Prop:=∃P:List Nat,P.Nodup/\(∀u∈P,u<N/\bt (l t) (l u)=false)/\m<=P.length
theorem mT:∀(N:Nat)(P:List Nat),P.Nodup->(∀u∈P,u<N)->P.length<=N
 |0,[],_,_=>yg _
 |0,u::_,_,h=>absurd (h u (by simp)) (by omega)
 |N+1,P,hn,h=>by
  have h1:(P.erase N).Nodup:=hn.erase N;have h2:∀u∈P.erase N,u<N:=fun u hu=>by
   have h3:=h u (List.mem_of_mem_erase hu);have h4:u≠N:=(List.Nodup.mem_erase_iff hn).1 hu |>.1;omega
  have h3:=mT N _ h1 h2;by_cases hm:N∈P
  ·have:=List.length_erase_of_mem hm;omega
  ·rw[List.erase_of_not_mem hm]at h3;omega
structure kX (bt:α->α->Bool)(imp:Nat->(Nat->α)->α)(N:Nat)(good:(Nat->α)->Prop)(used:Nat->(Nat->α)->Nat->Prop)(dep:α->Nat)(j i:Nat)(l:Nat->α)(c:Nat->Nat):Prop where
 g:good l
 ch:∀t,t<N->Wa bt N l t (c t)
 dc:∀t,t<N->Wa bt N l t (dep (l t))
 w:∀t,t<N->bt (imp t l) (l t)=true->(j=0/\i<=t)\/∃u,used t l u/\(if t<i then j+1 else j)<=c u
theorem Wa.zC {l:Nat->α}{t m:Nat}(h:Wa bt N l t m):m<=N:=by
 obtain⟨P,h1,h2,h3⟩:=h;have:=mT N P h1 fun u hu=>(h2 u hu).1
 omega
theorem Wa.more (hB:XK bt){l:Nat->α}{i u m:Nat}{v:α}(hi:i<N)(hc:Wa bt N l u m)(hs:bt v (l u)=false)(hv:bt v (l i)=true):∃P:List Nat,P.Nodup/\(∀w∈P,w<N/\(w=i\/bt v (l w)=false))/\m+1<=P.length:=by
 obtain⟨P,h1,h2,h3⟩:=hc;have hP:∀w∈P,bt v (l w)=false:=fun w hw=>hB.neg _ _ _ hs (h2 w hw).2
 refine⟨i::P,List.nodup_cons.2 ⟨fun hm=>?_,h1⟩,fun w hw=>?_,by simp;omega⟩
 ·have:=hP i hm;rw[hv]at this;cases this
 ·rcases yh.1 hw with rfl | hw
  ·exact⟨hi,.inl rfl⟩
  ·exact⟨(h2 w hw).1,.inr (hP w hw)⟩
theorem pS {l:Nat->α}{i:Nat}(h:bt (imp i l) (l i)=true):zJ bt imp l i i=imp i l:=by simp[zJ,h]
theorem RM {l:Nat->α}{i j:Nat}(h:j≠i):zJ bt imp l i j=l j:=by simp[zJ,h]
theorem P6 {l:Nat->α}{i:Nat}(h:bt (imp i l) (l i)=false):zJ bt imp l i=l:=by
 funext j;unfold zJ;split
 ·rename_i e;subst e;simp[h]
 ·rfl
theorem a7 (hB:XK bt){l:Nat->α}{i:Nat}(hb:bt (imp i l) (l i)=true){P:List Nat}(hP:∀w∈P,w<N/\(w=i\/bt (imp i l) (l w)=false)):∀w∈P,w<N/\bt (zJ bt imp l i i) (zJ bt imp l i w)=false:=fun w hw=>by
 refine⟨(hP w hw).1,?_⟩;rw[pS hb];by_cases e:w=i
 ·subst e;rw[pS hb];exact hB.irr _
 ·rw [RM e];rcases (hP w hw).2 with h | h
  ·exact absurd h e
  ·exact h
theorem Wa.up (hB:XK bt){l:Nat->α}{i t m:Nat}(hb:bt (imp i l) (l i)=true)(hti:t≠i)(h:Wa bt N l t m):Wa bt N (zJ bt imp l i) t m:=by
 obtain⟨P,h1,h2,h3⟩:=h;refine⟨P,h1,fun w hw=>⟨(h2 w hw).1,?_⟩,h3⟩;rw[RM hti];by_cases e:w=i
 ·subst e;rw[pS hb];exact hB.neg _ _ _ (h2 w hw).2 (hB.asym hb)
 ·rw[RM e];exact(h2 w hw).2
theorem kX.step (hB:XK bt)(hI:zP bt imp N good used dep){j i:Nat}{l:Nat->α}{c:Nat->Nat}(hi:i<N)(h:kX bt imp N good used dep j i l c):∃c',kX bt imp N good used dep j (i+1) (zJ bt imp l i) c':=by
 cases hb:bt (imp i l) (l i)with
 |false =>
  rw[P6 hb];refine⟨c,h.g,h.ch,h.dc,fun t ht ae=>?_⟩;have ua:t≠i:=fun e=>by subst e;rw[hb]at ae;cases ae
  rcases h.w t ht ae with⟨h0,h1⟩|⟨u,hu,h1⟩
  ·exact .inl ⟨h0,by omega⟩
  ·refine .inr ⟨u,hu,?_⟩;by_cases fa:t<i
   ·rw[if_pos fa]at h1;rw[if_pos (by omega)];exact h1
   ·rw[if_neg fa]at h1;rw[if_neg (by omega)];exact h1
 |true =>
  have hdep:∀u,u<N->dep (l u)<=N:=fun u hu=>(h.dc u hu).zC
  have hg':=hI.keep l i h.g hdep hi hb;have one:Wa bt N (zJ bt imp l i) i 1:=⟨[i],by simp,a7 hB hb (by simp[hi]),by simp⟩;have more:∀u m,used i l u->Wa bt N l u m->Wa bt N (zJ bt imp l i) i (m+1):=fun u m hu hc=>by
   obtain⟨P,h1,h2,h3⟩:=hc.more hB hi (hI.sup l i u h.g hi hu) hb;exact⟨P,h1,a7 hB hb h2,h3⟩
  refine⟨fun t=>if t=i then j+1 else c t,hg',fun t ht=>?_,fun t ht=>?_,fun t ht ae=>?_⟩
  ·by_cases e:t=i
   ·subst e;simp only [if_true];rcases h.w t ht hb with ⟨h0,_⟩ | ⟨u,hu,h1⟩
    ·subst h0;exact one
    ·rw[if_neg (by omega)]at h1;obtain⟨P,q1,q2,q3⟩:=more u (c u) hu (h.ch u (hI.kB l t u h.g ht hu));exact⟨P,q1,q2,by omega⟩
   ·rw[if_neg e];exact(h.ch t ht).up hB hb e
  ·by_cases e:t=i
   ·subst e;rw [pS hb];rcases hI.dp l t h.g ht with h0 | ⟨u,hu,h1⟩
    ·obtain⟨P,q1,q2,q3⟩:=one;exact⟨P,q1,q2,by omega⟩
    ·obtain⟨P,q1,q2,q3⟩:=more u _ hu (h.dc u (hI.kB l t u h.g ht hu));exact⟨P,q1,q2,by omega⟩
   ·rw[RM e];exact(h.dc t ht).up hB hb e
  ·by_cases tc:used t (zJ bt imp l i) i
   ·by_cases e:t=i
    ·subst e;have:=hI.sup _ t t hg' ht tc;rw[this]at ae;cases ae
    ·refine .inr ⟨i,tc,?_⟩;simp only[if_true];split<;>omega
   ·obtain ⟨h1,h2⟩:=hI.loc l t i h.g ht hi hb hg' tc;by_cases e:t=i
    ·subst e;rw[pS hb]at ae;rw[h1]at ae;cases ae
    ·rw[RM e]at ae;have hbt':bt (imp t l) (l t)=true:=by
      cases hx:bt (imp t l) (l t)with
      |true=>rfl
      |false=>rw[hB.neg _ _ _ h1 hx]at ae;cases ae
     rcases h.w t ht hbt' with⟨h0,h3⟩|⟨u,hu,h3⟩
     ·exact .inl ⟨h0,by omega⟩
     ·have hui:u≠i:=fun e'=>by subst e'; exact tc (h2 u hu)
      refine .inr ⟨u,h2 u hu,?_⟩;simp only[if_neg hui];by_cases fa:t<i
      ·rw[if_pos fa]at h3;rw[if_pos (by omega)];exact h3
      ·rw[if_neg fa]at h3;rw[if_neg (by omega)];exact h3
theorem kX.sweep (hB:XK bt)(hI:zP bt imp N good used dep){j:Nat}{l:Nat->α}{c:Nat->Nat}(h:kX bt imp N good used dep j 0 l c):∀i,i<=N->∃c',kX bt imp N good used dep j i (E6 bt imp l i) c'
 |0,_=>⟨c,h⟩
 |i+1,hi=>by
  obtain⟨c',h'⟩:=kX.sweep hB hI h i (by omega);exact h'.step hB hI (by omega)
theorem kX.rounds (hB:XK bt)(hI:zP bt imp N good used dep){l:Nat->α}(hg:good l)(hd:∀t,t<N->dep (l t)=0):∀k,∃c,kX bt imp N good used dep k 0 (MX bt imp N l k) c
 |0=>⟨fun _=>0,hg,fun t _=>⟨[],by simp,by simp,by simp⟩,fun t ht=>⟨[],by simp,by simp,by simp[MX,hd t ht]⟩,fun t _ _=>.inl ⟨rfl,by omega⟩⟩
 |k+1=>by
  obtain⟨c,h⟩:=kX.rounds hB hI hg hd k;obtain⟨c',h'⟩:=h.sweep hB hI N (yg _);refine⟨c',h'.g,h'.ch,h'.dc,fun t ht ae=>?_⟩;rcases h'.w t ht ae with⟨_,h1⟩|⟨u,hu,h1⟩
  ·omega
  ·rw[if_pos ht]at h1;exact .inr ⟨u,hu,by rw[if_neg (by omega)];exact h1⟩
theorem D4 {l:Nat->α}(h:∀t,t<N->bt (imp t l) (l t)=false):∀i,i<=N->E6 bt imp l i=l
 |0,_=>rfl
 |i+1,hi=>by rw[E6,D4 h i (by omega),P6 (h i (by omega))]
section
variable (hB:XK bt) (hI:zP bt imp N good used dep) {l:Nat->α} (hg:good l) (hd:∀ t,t<N->dep (l t)=0)
include hB hI l hg hd
theorem D8 (k:Nat)(hk:N<=k):MX bt imp N l (k+1)=MX bt imp N l k:=by
 obtain⟨c,h⟩:=kX.rounds hB hI hg hd k;rw[MX];refine D4 (fun t ht=>?_) N (yg _);cases hb:bt (imp t (MX bt imp N l k)) (MX bt imp N l k t)with
 |false=>rfl
 |true =>
  exfalso;rcases h.w t ht hb with⟨h0,_⟩|⟨u,hu,h1⟩
  ·omega
  ·rw [if_neg (by omega)] at h1;obtain ⟨P,q1,q2,q3⟩:=(h.ch u (hI.kB _ t u h.g ht hu)).more hB ht (hI.sup _ t u h.g ht hu) hb;have:=mT N P q1 fun w hw=>(q2 w hw).1
   omega
theorem H8 (k i:Nat)(hi:i<=N):good (E6 bt imp (MX bt imp N l k) i)/\∀t,t<N->dep (E6 bt imp (MX bt imp N l k) i t)<=N:=by
 obtain⟨c,h⟩:=kX.rounds hB hI hg hd k;obtain⟨c',h'⟩:=h.sweep hB hI i hi;exact⟨h'.g,fun t ht=>(h'.dc t ht).zC⟩
end
end
end
section
def qH (n:Int):List AV:=[.int .u8 n]
def E3 (n:Int):UInt8:=UInt8.ofNat n.toNat
def sR:Nat->Int->List Int
 |0,_=>[]
 |k+1,n=>if 128<=n then(n%128+128)::sR k (n / 128)else [n]
def jT:Nat->Int->List Int
 |0,_=>[]
 |k+1,n=>if 0<n then jT k (n / 256)++[n%256]else []
def cO (l:List Int):ByteArray:=⟨(l.map E3).toArray⟩
def PN (n:Int):ByteArray:=cO (sR 10 n)
def P1 (n:Int):ByteArray:=cO (jT 8 n)
theorem DO:∀l:List Int,bytesOf (l.map qH)=some (l.map E3)
 | []=>rfl
 |n::r=>by
  have ih:=DO r;rw[yk,show qH n=[AV.int .u8 n]from rfl,bytesOf]
  ·rfl
  ·exact ih
theorem RR (l:List Int):PD 1 (l.map qH)=true:=rG _ _ _ fun _=>rfl
theorem AQ (l:List Int):(cO l).size=l.length:=by simp[cO,ByteArray.size]
theorem P8:∀k n,(sR k n).length<=k
 |0,_=>yg _
 |k+1,n=>by
  rw[sR];split
  ·have:=P8 k (n / 128);simp only[yE];omega
  ·simp
theorem Bj:∀k n,0<k->0<(sR k n).length
 |0,_,h=>by omega
 |k+1,n,_=>by
  rw[sR];split<;>simp
theorem r7:∀k n,(jT k n).length<=k
 |0,_=>yg _
 |k+1,n=>by
  rw[jT];split
  ·have:=r7 k (n / 256);simp only[yC,yE,List.length_nil];omega
  ·simp
theorem B0 (n:Int):IntKind.u8.wrap n=n%256:=rfl
theorem or_128 (x:Fin 256):(BitVec.ofNat 8 x.1 ||| 128#8).toNat=x.1%128+128:=by
 revert x
 decide
theorem or_u8 (n:Int)(h:0<=n):NK .or false (.int .u8 (IntKind.u8.wrap n)) (.int .u8 128)=some (.int .u8 (n%128+128)):=by
 have hm:0<=n%256/\n%256<256:=by omega
 have h1:=or_128 ⟨(n%256).toNat,by omega⟩;have h2:BitVec.ofInt 8 (n%256)=BitVec.ofNat 8 (n%256).toNat:=by
  rw[show BitVec.ofInt 8 (n%256)=BitVec.ofInt 8 (((n%256).toNat:Nat):Int)from by rw[show(((n%256).toNat:Nat):Int)=n%256 from by omega],BitVec.ofInt_natCast]
 have h3:((BitVec.ofInt 8 (n%256) ||| BitVec.ofInt 8 128).toNat:Int)=n%128+128:=by
  rw[h2];have:BitVec.ofInt 8 128=128#8:=by decide
  rw[this,h1];simp only;omega
 simp only[NK,B0,MT];show some (AV.int .u8 (IntKind.u8.wrap ((BitVec.ofInt 8 (n%256) ||| BitVec.ofInt 8 128).toNat:Int)))=_;rw[h3,B0];congr 2;omega
theorem shr_7 (n c:Int)(h:n / 128=c):NK .shr false (.int .u64 n) (.int .u64 7)=some (.int .u64 c):=by
 simp only[NK];rw[if_pos (by decide)];have:(2:Int) ^ shN .u64 7=128:=by decide
 rw[this,Int.fdiv_eq_ediv_of_nonneg n (by decide),h]
theorem shr_8 (n c:Int)(h:n / 256=c):NK .shr false (.int .u64 n) (.int .u64 8)=some (.int .u64 c):=by
 simp only[NK];rw[if_pos (by decide)];have:(2:Int) ^ shN .u64 8=256:=by decide
 rw[this,Int.fdiv_eq_ediv_of_nonneg n (by decide),h]
def uV (k:Nat)(l:List Int):List Int:=l++List.replicate (k-l.length) 0
section
variable {k:IntKind} {t:Bool} {a b:Int}
theorem bi_geq:NK .geq t (.int k a) (.int k b)=some (.bool (decide (b<=a))):=by simp[NK]
theorem bi_gtr:NK .gtr t (.int k a) (.int k b)=some (.bool (decide (b<a))):=by simp[NK]
theorem bi_add:NK .add t (.int k a) (.int k b)=some (.int k (k.wrap (a+b))):=by simp[NK]
theorem bi_sub:NK .sub t (.int k a) (.int k b)=some (.int k (k.wrap (a-b))):=by simp[NK]
end
end
def Uz:Nat->Int
 |0=>1
 |1=>2
 |k+2=>128*Uz (k+1)
def A1:Nat->Int
 |0=>1
 |k+1=>256*A1 k
theorem bnd_le:∀k,k<=10->Uz k<=18446744073709551616:=by
 intro k h;have:k=0\/k=1\/k=2\/k=3\/k=4\/k=5\/k=6\/k=7\/k=8\/k=9\/k=10:=by omega
 rcases this with rfl|rfl|rfl|rfl|rfl|rfl|rfl|rfl|rfl|rfl|rfl<;>decide
theorem Ec:∀k,k<=8->A1 k<=18446744073709551616:=by
 intro k h;have:k=0\/k=1\/k=2\/k=3\/k=4\/k=5\/k=6\/k=7\/k=8:=by omega
 rcases this with rfl|rfl|rfl|rfl|rfl|rfl|rfl|rfl|rfl<;>decide
theorem MI (l:List Int):HC (l.map qH)=l.map fun n=>(⟨.int .u8 n,.no⟩:WC):=by
 unfold HC
 induction l with
 |nil=>rfl
 |cons x r ih=>simp only[yk,yA,qH,yv,yF];rw[<- ih]
theorem Od (l:List Int)(i:Nat)(h:i<=l.length):bH (HC (l.map qH)) 1 0 i=some ((l.take i).map qH):=by
 unfold bH;have h1:0+i*1<=(HC (l.map qH)).length:=by rw[MI,yo];omega
 have h2:(HC (l.map qH)).all (fun x=>x.v.iA)=true:=by rw[MI];simp[AV.iA]
 rw[if_pos ⟨h1,h2⟩];congr 1;apply List.ext_getElem?;intro j;by_cases hj:j<i
 ·have hl:j<l.length:=by omega
  simp only[yb,List.getElem?_range hj,yp,List.getElem?_take_of_lt hj,y7 hl];rw[MI];simp only[Nat.mul_one,yy];rw[<- List.map_drop,yc hl];rfl
 ·rw[yV (by simp;omega),yV (by simp;omega)]
theorem nY (l:List Int)(i:Nat)(n:Int):(l.map qH).set i [.int .u8 n]=(l.set i n).map qH:=by
 exact(List.map_set (f:=qH)).symm
theorem Et {k i:Nat}{l:List Int}(hl:l.length=i)(hi:i<k)(n:Int):(uV k l).set i n=uV k (l++[n]):=by
 subst hl;unfold uV;rw[List.set_append_right _ _ (yg _),Nat.sub_self];have:k-l.length=(k-(l++[n]).length)+1:=by simp;omega
 rw[this,List.replicate_succ,List.set_cons_zero];simp
theorem pY {k:Nat}{l:List Int}(h:l.length<=k):(uV k l).length=k:=by
 unfold uV;simp;omega
theorem Kj {k:Nat}{l:List Int}:(uV k l).take l.length=l:=by
 unfold uV;rw[List.take_left]
theorem Zq (n0:Int)(h0:0<=n0/\n0<18446744073709551616):IC 192 [.int .u64 n0] (.str (PN n0)):=by
 refine mC (c:=EN) rfl rfl ?_;simp[EN,-J,-y4,-y3,y0];refine ZC 9 (fun i s=>∃m l,l.length=i/\l++sR (10-i) m=sR 10 n0/\0<=m/\m<Uz (10-i)/\(s.env 0).v=.int .u64 m/\(s.env 3).v=.ptr 3 2 0/\(s.env 4).v=.int .i64 i/\s.mem 3 2=some (HC ((uV 10 l).map qH)))
  (fun e s=>e=.exit 0/\∃(i:Nat)(m:Int)(l:List Int),i<=9/\l.length=i/\l++[m]=sR 10 n0/\0<=m/\m<128/\(s.env 0).v=.int .u64 m/\(s.env 3).v=.ptr 3 2 0/\(s.env 4).v=.int .i64 i/\s.mem 3 2=some (HC ((uV 10 l).map qH))) (fun i hi s k h ih hk=>?_) _ _ ?_ (fun e s h=>?_)
 ·obtain ⟨m,l,hl,hp,be,br,e0,e3,e4,m3⟩:=h;refine EC ?_;by_cases c:128<=m
  ·have hi9:i<9:=by
    rcases Nat.lt_or_ge i 9 with h|h
    ·exact h
    ·have:i=9:=by omega
     subst this;simp[Uz]at br;omega
   obtain⟨j,hj⟩:∃j,10-i=j+2:=⟨8-i,by omega⟩;rw[hj,Uz]at br;rw[hj,sR,if_pos c]at hp;have xo:10-(i+1)=j+1:=by omega
   have hor:=or_u8 m be;have lz:=shr_7 m (m / 128) rfl;have hw:=cD (i:=i);have tb:=SN (RR (uV 10 l)) (k:=i) (by rw[yo,pY (by omega)];omega) (x:=.int .u8 (m%128+128)) rfl 1;rw[nY,Et hl (by omega)]at tb;have tx:i<10:=by omega
   simp[uN,-J,-y4,-y3,y0,-kD,-MC,zD,xD,wD,eD,-NK,e0,e3,e4,m3,c,hor,lz,hw,tb,tx,bi_geq,bi_add];refine ih hi9 _ ⟨m / 128,l++[m%128+128],by simp[hl],by rw[xo];simpa using hp,by omega,by rw[xo];omega,?_,?_,?_,?_⟩<;>simp[e3]
  ·have c':¬128<=m:=c;obtain⟨j,hj⟩:∃j,10-i=j+1:=⟨9-i,by omega⟩;rw[hj,sR,if_neg c']at hp;simp[uN,-J,-y4,-y3,y0,-kD,-MC,zD,xD,wD,eD,e0,c];exact hk _ _ ⟨rfl,i,m,l,hi,hl,hp,be,by omega,by simp[e0],by simp[e3],by simp[e4],m3⟩
 ·refine ⟨n0,[],rfl,rfl,h0.1,by simp [Uz]; omega,?_,?_,?_,?_⟩
  ·simp
  ·simp
  ·simp
  ·simp[uV,HC,qH]
 ·obtain ⟨rfl,i,m,l,hi,hl,hp,be,ji,e0,e3,e4,m3⟩:=h;have hu8:IntKind.u8.wrap m=m:=by rw [B0]; omega
  have hw:=cD (i:=i);have tb:=SN (RR (uV 10 l)) (k:=i) (by rw[yo,pY (by omega)];omega) (x:=.int .u8 m) rfl 1;rw[nY,Et hl (by omega)]at tb;have tx:i<10:=by omega
  have zm:(l++[m]).length=i+1:=by simp[hl]
  have jv:=Od (uV 10 (l++[m])) (i+1) (by rw[pY (by omega)];omega);rw[<- zm,Kj,zm,hp]at jv;have oo:=DO (sR 10 n0);have kg:i+1<=10:=by omega
  have hrl:i+1<=10/\10<=(HC (List.map qH (uV 10 (l++[m])))).length:=⟨kg,by rw[MI,yo,pY (by omega)];omega⟩;have h0i:(0:Int)<=(i:Int)+1:=by omega
  rw[hp]at tb hrl;simp[-J,-y4,-y3,y0,-kD,-MC,zD,xD,wD,eD,e0,e3,e4,m3,hu8,tb,hw,tx,jv,oo,kg,h0i,hrl.2,Cl.pA,PN,cO]
def LR (k:Nat)(l:List Int):List Int:=List.replicate (k-l.length) 0++l
theorem o0 {k:Nat}{l:List Int}(h:l.length<=k):(LR k l).length=k:=by
 unfold LR;simp;omega
theorem Jj {k i:Nat}{l:List Int}(hl:l.length+(i+1)=k)(n:Int):(LR k l).set i n=LR k (n::l):=by
 unfold LR;have h1:k-l.length=i+1:=by omega
 have h2:k-(n::l).length=i:=by simp;omega
 rw[h1,h2,List.set_append_left _ _ (by simp),List.replicate_succ'];rw[List.set_append_right _ _ (by simp)];simp
theorem Hj {k i:Nat}{l:List Int}(hl:l.length+i=k):bH (HC ((LR k l).map qH)) 1 i (k-i)=some (l.map qH):=by
 unfold bH;have ja:=o0 (k:=k) (l:=l) (by omega);have h1:i+(k-i)*1<=(HC ((LR k l).map qH)).length:=by rw[MI,yo,ja];omega
 have h2:(HC ((LR k l).map qH)).all (fun x=>x.v.iA)=true:=by rw[MI];simp[AV.iA]
 rw[if_pos ⟨h1,h2⟩];congr 1;apply List.ext_getElem?;intro j;by_cases hj:j<k-i
 ·have oj:j<l.length:=by omega
  simp only[yb,List.getElem?_range hj,yp,y7 oj];rw[MI,<- List.map_drop];have h3:i+j*1<(LR k l).length:=by omega
  rw[yc h3];have h4:(LR k l)[i+j*1]=l[j]:=by
   have h5:(LR k l)[i+j*1]?=l[j]?:=by
    unfold LR;rw[yN (by simp;omega)];congr 1;simp;omega
   rw[y7 h3,y7 oj]at h5;injection h5
  rw[h4];rfl
 ·rw[yV (by simp;omega),yV (by simp;omega)]
theorem Qd:∀k,jT k 0=[]
 |0=>rfl
 |k+1=>rfl
section
variable (n0:Int) (h0:0<=n0/\n0<18446744073709551616)
include n0 h0
theorem Wd:IC 121 [.int .u64 n0] (.str (P1 n0)):=by
 refine mC (c:=WN) rfl rfl ?_;simp[WN,-J,-y4,-y3,y0];refine ZC 8 (fun i s=>∃m l,l.length=i/\jT (8-i) m++l=jT 8 n0/\0<=m/\m<A1 (8-i)/\(s.env 0).v=.int .u64 m/\(s.env 3).v=.ptr 3 2 0/\(s.env 4).v=.int .i64 ((8:Int)-i)/\s.mem 3 2=some (HC ((LR 8 l).map qH)))
  (fun e s=>e=.exit 0/\∃(i:Nat)(l:List Int),i<=8/\l.length=i/\l=jT 8 n0/\(s.env 3).v=.ptr 3 2 0/\(s.env 4).v=.int .i64 ((8:Int)-i)/\s.mem 3 2=some (HC ((LR 8 l).map qH))) (fun i hi s k h ih hk=>?_) _ _ ?_ (fun e s h=>?_)
 ·obtain ⟨m,l,hl,hp,be,br,e0,e3,e4,m3⟩:=h;refine EC ?_;by_cases c:0<m
  ·have hi8:i<8:=by
    rcases Nat.lt_or_ge i 8 with h|h
    ·exact h
    ·have:i=8:=by omega
     subst this;simp[A1]at br;omega
   obtain⟨j,hj⟩:∃j,8-i=j+1:=⟨7-i,by omega⟩;rw[hj,A1]at br;rw[hj,jT,if_pos c]at hp;have xo:8-(i+1)=j:=by omega
   have lz:=shr_8 m (m / 256) rfl;obtain⟨z,hz⟩:∃z:Int,z=(8:Int)-i:=⟨_,rfl⟩;obtain⟨y,hy⟩:∃y:Int,y=(8:Int)-((i+1:Nat):Int):=⟨_,rfl⟩;have hw:IntKind.i64.wrap (z-1)=y:=by rw[IntWalk.i64_in _ (by omega)];omega
   have tg:0<=y:=by omega
   have hyt:y.toNat=j:=by omega
   have hy8:y.toNat<8:=by omega
   have tb:=SN (RR (LR 8 l)) (k:=y.toNat) (by rw[yo,o0 (by omega)];omega) (x:=.int .u8 (m%256)) rfl 1;rw[nY,Jj (by omega)]at tb;have h8:=B0 m;rw[<- hz]at e4;simp[tN,-J,-y4,-y3,y0,-kD,-MC,zD,xD,wD,eD,-NK,e0,e3,e4,m3,c,lz,hw,tb,tg,hy8,h8,bi_gtr,bi_sub];refine ih hi8 _ ⟨m / 256,(m%256)::l,by simp[hl],by rw[xo];simpa using hp,by omega,by rw[xo];omega,?_,?_,?_,?_⟩<;>simp[e3,hy]
  ·have hm:m=0:=by omega
   subst hm;rw[Qd,yF]at hp;simp[tN,-J,-y4,-y3,y0,-kD,-MC,zD,xD,wD,eD,e0];exact hk _ _ ⟨rfl,i,l,hi,hl,hp,by simp[e3],by simp[e4],m3⟩
 ·refine ⟨n0,[],rfl,by simp,h0.1,by simp [A1]; omega,?_,?_,?_,?_⟩
  ·simp
  ·simp
  ·simp
  ·simp[LR,HC,qH]
 ·obtain ⟨rfl,i,l,hi,hl,hp,e3,e4,m3⟩:=h;obtain ⟨z,hz⟩:∃ z:Int,z=(8:Int) - i:=⟨_,rfl⟩;rw [<- hz] at e4;have jg:0<=z:=by omega
  have hz8:z.toNat<=8:=by omega
  have oo:=DO (jT 8 n0);have ue:=Hj (k:=8) (i:=z.toNat) (l:=l) (by omega);rw[hp]at ue;rw[hp]at m3;have ja:8<=(HC (List.map qH (LR 8 (jT 8 n0)))).length:=by rw[MI,yo,o0 (by rw[<- hp];omega)];omega
  by_cases h8:z.toNat=8
  ·have ev:jT 8 n0=[]:=by rw [<- hp]; exact yJ (by omega)
   rw[ev]at ja m3;simp[-J,-y4,-y3,y0,-kD,-MC,zD,xD,wD,eD,e3,e4,m3,jg,hz8,h8,ja,Cl.pA,P1,cO,ev,bytesOf]
  ·have h8':¬ 8=z.toNat:=fun h=>h8 h.symm
   simp[-J,-y4,-y3,y0,-kD,-MC,zD,xD,wD,eD,e3,e4,m3,jg,hz8,h8,h8',ja,ue,oo,Cl.pA,P1,cO]
theorem g6:IC 93 [.int .u64 n0] (.str (PN n0)):=by
 refine mC (c:=XO) rfl rfl ?_;simp[XO,-J,-y4,-y3,y0];refine ZC 9 (fun i s=>∃m l,l.length=i/\l++sR (10-i) m=sR 10 n0/\0<=m/\m<Uz (10-i)/\(s.env 0).v=.int .u64 m/\((i=0/\(s.env 3).v=.sl true [])\/(0<i/\(s.env 3).v=.sl false (l.map qH)/\(s.env 3).a=.own 12 5)))
  (fun e s=>e=.exit 0/\∃(i:Nat)(m:Int)(l:List Int),i<=9/\l.length=i/\l++[m]=sR 10 n0/\0<=m/\m<128/\(s.env 0).v=.int .u64 m/\((i=0/\(s.env 3).v=.sl true [])\/(0<i/\(s.env 3).v=.sl false (l.map qH)/\(s.env 3).a=.own 12 5))) (fun i hi s k h ih hk=>?_) _ _ ?_ (fun e s h=>?_)
 ·obtain ⟨m,l,hl,hp,be,br,e0,e3⟩:=h;refine EC ?_;by_cases c:128<=m
  ·have hi9:i<9:=by
    rcases Nat.lt_or_ge i 9 with h|h
    ·exact h
    ·have:i=9:=by omega
     subst this;simp[Uz]at br;omega
   obtain⟨j,hj⟩:∃j,10-i=j+2:=⟨8-i,by omega⟩;rw[hj,Uz]at br;rw[hj,sR,if_pos c]at hp;have xo:10-(i+1)=j+1:=by omega
   have h1:m.tmod 128=m%128:=Int.tmod_eq_emod_of_nonneg be;have h2:IntKind.u64.wrap (m%128)=m%128:=uG _ (by omega);have h3:IntKind.u64.wrap (m%128+128)=m%128+128:=uG _ (by omega);have h4:IntKind.u8.wrap (m%128+128)=m%128+128:=by rw[B0];omega
   have h5:m.tdiv 128=m / 128:=Int.tdiv_eq_ediv_of_nonneg be;have h6:IntKind.u64.wrap (m / 128)=m / 128:=uG _ (by have:=bnd_le (j+1) (by omega);omega);have ta:aE 1 (i+1)=true:=by rw[UD];omega
   have q:=RR l;rcases e3 with⟨so,e3⟩|⟨so,e3,a3⟩
   ·subst so;have ot:l=[]:=yJ hl;subst ot;have r11:aE 1 1=true:=by decide
    simp[qL,-J,-y4,-y3,y0,e0,e3,c,h1,h2,h3,h4,h5,h6,r11];refine ih hi9 _ ⟨m / 128,[]++[m%128+128],by simp,by rw[xo];simpa using hp,by omega,by rw[xo];omega,?_,.inr ⟨by omega,?_,?_⟩⟩<;>simp[qH]
   ·simp[qL,-J,-y4,-y3,y0,e0,e3,a3,c,h1,h2,h3,h4,h5,h6,hl,ta,q];refine ih hi9 _ ⟨m / 128,l++[m%128+128],by simp[hl],by rw[xo];simpa using hp,by omega,by rw[xo];omega,?_,.inr ⟨by omega,?_,?_⟩⟩<;>simp[qH]
  ·obtain⟨j,hj⟩:∃j,10-i=j+1:=⟨9-i,by omega⟩;rw[hj,sR,if_neg c]at hp;simp[qL,-J,-y4,-y3,y0,e0,c];exact hk _ _ ⟨rfl,i,m,l,hi,hl,hp,be,by omega,by simp[e0],by
    rcases e3 with⟨so,e3⟩|⟨so,e3,a3⟩
    ·exact .inl ⟨so,by simp[e3]⟩
    ·exact .inr ⟨so,by simp[e3],by simp[a3]⟩⟩
 ·refine ⟨n0,[],rfl,rfl,h0.1,by simp [Uz]; omega,?_,.inl ⟨rfl,?_⟩⟩
  ·simp
  ·simp
 ·obtain ⟨rfl,i,m,l,hi,hl,hp,be,ji,e0,e3⟩:=h;have hu8:IntKind.u8.wrap m=m:=by rw [B0]; omega
  have ta:aE 1 (i+1)=true:=by rw[UD];omega
  have q:=RR l;have oo:bytesOf (l.map qH++[[AV.int .u8 m]])=some ((sR 10 n0).map E3):=by
   have:=DO (l++[m]);rw[hp,<- hp,List.map_append]at this;simpa [qH,hp]using this
  rcases e3 with⟨so,e3⟩|⟨so,e3,a3⟩
  ·subst so;have ot:l=[]:=yJ hl;subst ot;simp at oo;have r11:aE 1 1=true:=by decide
   simp[-J,-y4,-y3,y0,e0,e3,hu8,oo,PN,cO,r11]
  ·simp[-J,-y4,-y3,y0,e0,e3,a3,hu8,hl,ta,q,oo,PN,cO]
theorem Ot:IC 51 [.int .u64 n0] (.str (P1 n0)):=by
 refine mC (c:=ZO) rfl rfl ?_;simp[ZO,-J,-y4,-y3,y0];refine ZC 8 (fun i s=>∃m l,l.length=i/\jT (8-i) m++l=jT 8 n0/\0<=m/\m<A1 (8-i)/\(s.env 0).v=.int .u64 m/\(s.env 3).v=.str (cO l))
  (fun e s=>e=.exit 0/\(s.env 3).v=.str (P1 n0)) (fun i hi s k h ih hk=>?_) _ _ ?_ (fun e s h=>?_)
 ·obtain ⟨m,l,hl,hp,be,br,e0,e3⟩:=h;refine EC ?_;by_cases c:0<m
  ·have hi8:i<8:=by
    rcases Nat.lt_or_ge i 8 with h|h
    ·exact h
    ·have:i=8:=by omega
     subst this;simp[A1]at br;omega
   obtain⟨j,hj⟩:∃j,8-i=j+1:=⟨7-i,by omega⟩;rw[hj,A1]at br;rw[hj,jT,if_pos c]at hp;have xo:8-(i+1)=j:=by omega
   have h1:m.tmod 256=m%256:=Int.tmod_eq_emod_of_nonneg be;have h2:IntKind.u64.wrap (m%256)=m%256:=uG _ (by omega);have h4:IntKind.u8.wrap (m%256)=m%256:=by rw[B0];omega
   have h5:m.tdiv 256=m / 256:=Int.tdiv_eq_ediv_of_nonneg be;have h6:IntKind.u64.wrap (m / 256)=m / 256:=uG _ (by have:=Ec j (by omega);omega);have ra:(ByteArray.mk #[E3 (m%256)]).size+(cO l).size<=9223372036854775807:=by rw[AQ];show 1+l.length<=_;omega
   have po:(ByteArray.mk #[E3 (m%256)])++cO l=cO ((m%256)::l):=by
    apply ByteArray.ext;simp[cO]
   have oo:bytesOf [[AV.int .u8 (m%256)]]=some [E3 (m%256)]:=rfl;simp[BN,-J,-y4,-y3,y0,e0,e3,c,h1,h2,h4,h5,h6,oo,ra,po];refine ih hi8 _ ⟨m / 256,(m%256)::l,by simp[hl],by rw[xo];simpa using hp,by omega,by rw[xo];omega,?_,?_⟩<;>simp
  ·have hm:m=0:=by omega
   subst hm;rw[Qd,yF]at hp;subst hp;simp[BN,-J,-y4,-y3,y0,e0];exact hk _ _ ⟨rfl,by simp[e3,P1]⟩
 ·refine ⟨n0,[],rfl,by simp,h0.1,by simp [A1]; omega,?_,?_⟩
  ·simp
  ·simp[cO]
 ·obtain⟨rfl,e3⟩:=h;simp[-J,-y4,-y3,y0,e3]
end
def PF (p:ByteArray):ByteArray:=PN p.size++p
def cL (id:Int)(c:Bool):Int:=if c then 2*id+1 else 2*id
def KH (id:Int)(c:Bool)(p:ByteArray):ByteArray:=PN (cL id c)++PF p
def rH (m:RE)(v:Vl):Bool:=m.has&&m.dflt.same v
def eB:ByteArray:=⟨#[]⟩
def fI (f:Int->Vl->ByteArray):List RE->List Vl->ByteArray->ByteArray
 |m::r,v::q,b=>fI f r q (if rH m v then b else b++KH m.id m.EA (f m.ty v))
 |_,_,b=>b
def xF (f:Vl->ByteArray):List Vl->ByteArray->ByteArray
 | [],b=>b
 |v::r,b=>xF f r (b++PF (f v))
def bG (f g:Vl->ByteArray):List Vl->List Vl->ByteArray->ByteArray
 |k::r,v::q,b=>bG f g r q (b++PF (f k)++PF (g v))
 |_,_,b=>b
def T9 (f:Int->Vl->ByteArray):Option RE->List Vl->ByteArray
 |some m,u::_=>f m.ty u
 |_,_=>eB
def NX (f:Vl->ByteArray):List Vl->ByteArray
 |u::_=>⟨#[1]⟩++f u
 | []=>eB
def tF (f:Int->Vl->ByteArray)(x:BC)(v:Vl):ByteArray :=
 if x.kind=1 then(if v.b then⟨#[1]⟩else eB)
 else if x.kind=2 then P1 (E1 v.i)
 else if x.kind=3 then v.s
 else if x.kind=4 then P1 v.id
 else if x.kind=5 then fI f x.qA v.items eB
 else if x.kind=6 then PN v.id++T9 f x.qA[(dE x.qA v.id).toNat]? v.items
 else if x.kind=9 then NX (f x.elem) v.items
 else if x.kind=7 then xF (f x.elem) v.items eB
 else bG (f x.key) (f x.elem) v.keys v.items eB
def ZJ (S:List BC):Nat->Int->Vl->ByteArray
 |0,_,_=>eB
 |n+1,t,v=>match S[t.toNat]? with
  |some x=>tF (ZJ S n) x v
  |none=>eB
def tK (f:Int->Vl->Nat):List RE->List Vl->Nat->Nat
 |m::r,v::q,b=>tK f r q (if rH m v then b else max b (f m.ty v))
 |_,_,b=>b
def nH (f:Vl->Nat):List Vl->Nat->Nat
 | [],b=>b
 |v::r,b=>nH f r (max b (f v))
def gJ (f g:Vl->Nat):List Vl->List Vl->Nat->Nat
 |k::r,v::q,b=>gJ f g r q (max (max b (f k)) (g v))
 |_,_,b=>b
def La (f:Int->Vl->Nat):Option RE->List Vl->Nat
 |some m,u::_=>f m.ty u
 |_,_=>0
def R8 (f:Vl->Nat):List Vl->Nat
 |u::_=>f u
 | []=>0
def OJ (f:Int->Vl->Nat)(x:BC)(v:Vl):Nat :=
 if x.kind=5 then 1+tK f x.qA v.items 0
 else if x.kind=6 then 1+La f x.qA[(dE x.qA v.id).toNat]? v.items
 else if x.kind=9 then 1+R8 (f x.elem) v.items
 else if x.kind=7 then 1+nH (f x.elem) v.items 0
 else if x.kind=8 then 1+gJ (f x.key) (f x.elem) v.keys v.items 0
 else 1
def US (S:List BC):Nat->Int->Vl->Nat
 |0,_,_=>1
 |n+1,t,v=>match S[t.toNat]? with
  |some x=>OJ (US S n) x v
  |none=>1
theorem DK (n:Int):(PN n).size<=10:=by
 unfold PN;rw[AQ];exact P8 10 n
theorem b3 (n:Int):(P1 n).size<=8:=by
 unfold P1;rw[AQ];exact r7 8 n
theorem tG (p:ByteArray):p.size<=(PF p).size/\(PF p).size<=p.size+10:=by
 have:=DK p.size;unfold PF;rw[ByteArray.size_append];omega
theorem XM (id:Int)(c:Bool)(p:ByteArray):p.size<=(KH id c p).size/\(KH id c p).size<=p.size+20:=by
 have:=DK (cL id c);have:=tG p;unfold KH;rw[ByteArray.size_append];omega
theorem l4 (f:Int->Vl->ByteArray):∀(l:List RE)(q:List Vl)(b:ByteArray),b.size<=(fI f l q b).size
 | [],q,b=>by cases q<;>exact yg _
 |m::r,[],b=>yg _
 |m::r,v::q,b=>by
  have:=l4 f r q (if rH m v then b else b++KH m.id m.EA (f m.ty v));rw[fI];split at this
  ·rename_i h;rw[if_pos h];exact this
  ·rename_i h;rw[if_neg h];rw[ByteArray.size_append]at this;omega
theorem fQ (f:Vl->ByteArray):∀(l:List Vl)(b:ByteArray),b.size<=(xF f l b).size
 | [],b=>yg _
 |v::r,b=>by
  have:=fQ f r (b++PF (f v));rw[ByteArray.size_append]at this;rw[xF];omega
theorem bS (f g:Vl->ByteArray):∀(l q:List Vl)(b:ByteArray),b.size<=(bG f g l q b).size
 | [],q,b=>by cases q<;>exact yg _
 |k::r,[],b=>yg _
 |k::r,v::q,b=>by
  have:=bS f g r q (b++PF (f k)++PF (g v));rw[ByteArray.size_append,ByteArray.size_append]at this;rw[bG];omega
theorem kV (p:ByteArray)(h:p.size<=140737488355328):IC 125 [.str p] (.str (PF p)):=by
 have h1:IntKind.u64.wrap (p.size:Int)=p.size:=uG _ (by omega);have h2:=Zq p.size (by omega);have h3:(PN p.size).size+p.size<=9223372036854775807:=by have:=DK p.size;omega
 simp only[IC]at h2;refine mC (c:=MK) rfl rfl ?_;simp[MK,-J,-y4,-y3,y0,h1,h2,h3,PF]
theorem gV (p:ByteArray)(h:p.size<=140737488355328):IC 215 [.str p] (.str (PF p)):=by
 have h1:IntKind.u64.wrap (p.size:Int)=p.size:=uG _ (by omega);have h2:=g6 p.size (by omega);have h3:(PN p.size).size+p.size<=9223372036854775807:=by have:=DK p.size;omega
 simp only[IC]at h2;refine mC (c:=bN) rfl rfl ?_;simp[bN,-J,-y4,-y3,y0,h1,h2,h3,PF]
section
variable (id:Int) (MQ:1<=id/\id<=1000) (c:Bool) (p:ByteArray) (h:p.size<=140737488355328)
include id MQ c p h
theorem Gf:IC 189 [.int .i64 id,.bool c,.str p] (.str (KH id c p)):=by
 have h1:IntKind.u64.wrap id=id:=uG _ (by omega);have h2:IntKind.u64.wrap (2*id)=2*id:=uG _ (by omega);have h3:IntKind.u64.wrap (2*id+1)=2*id+1:=uG _ (by omega);have h4:=Zq (cL id c) (by unfold cL;split<;>omega);have h5:=kV p h;have h6:(PN (cL id c)).size+(PF p).size<=9223372036854775807:=by have:=DK (cL id c);have:=tG p;omega
 simp only[IC]at h4 h5;refine mC (c:=qJ) rfl rfl ?_;cases c with
 |true =>
  simp only[cL,if_true]at h4 h6;simp[qJ,-J,-y4,-y3,y0,h1,h2,h3,h4,h5,h6,KH,cL]
 |false =>
  simp[cL]at h4 h6;simp[qJ,-J,-y4,-y3,y0,h1,h2,h4,h5,h6,KH,cL]
theorem R4:IC 216 [.int .i64 id,.bool c,.str p] (.str (KH id c p)):=by
 have h1:IntKind.i64.wrap (2*id)=2*id:=IntWalk.i64_in _ (by omega);have h2:IntKind.u64.wrap (2*id)=2*id:=uG _ (by omega);have h3:IntKind.u64.wrap (2*id+1)=2*id+1:=uG _ (by omega);have h4:=g6 (cL id c) (by unfold cL;split<;>omega);have h5:=gV p h;have h6:(PN (cL id c)).size+(PF p).size<=9223372036854775807:=by have:=DK (cL id c);have:=tG p;omega
 simp only[IC]at h4 h5;refine mC (c:=NJ) rfl rfl ?_;cases c with
 |true =>
  simp only[cL,if_true]at h4 h6;simp[NJ,-J,-y4,-y3,y0,h1,h2,h3,h4,h5,h6,KH,cL]
 |false =>
  simp[cL]at h4 h6;simp[NJ,-J,-y4,-y3,y0,h1,h2,h4,h5,h6,KH,cL]
end
theorem Ip:∀(n:Nat)(v w:Vl),SizeOf.sizeOf v<n->v.same w=w.same v:=by
 intro n
 induction n with
 |zero=>intro v w h;omega
 |succ n ih =>
  have hl:∀(l m:List Vl),(∀x∈l,SizeOf.sizeOf x<n)->Vl.fA l m=Vl.fA m l:=fun l=>by
   induction l with
   |nil=>intro m _;cases m<;>simp[Vl.fA]
   |cons x r ihr =>
    intro m h;cases m with
    |nil=>simp[Vl.fA]
    |cons y q=>rw[Vl.fA,Vl.fA,ih x y (h x (by simp)),ihr q (fun z hz=>h z (by simp[hz]))]
  intro v w h;rw[Vl.fB,Vl.fB,hl v.keys w.keys (fun x hx=>by have:=Vl.xA v x hx;omega),hl v.items w.items (fun x hx=>by have:=Vl.jA v x hx;omega)];have e1:(decide (v.kind=w.kind))=decide (w.kind=v.kind):=decide_eq_decide.2 eq_comm;have e2:(v.b == w.b)=(w.b == v.b):=by cases v.b<;>cases w.b<;>rfl
  have e3:(decide (v.i=w.i))=decide (w.i=v.i):=decide_eq_decide.2 eq_comm;have e4:(decide (v.s=w.s))=decide (w.s=v.s):=decide_eq_decide.2 eq_comm;have e5:(decide (v.id=w.id))=decide (w.id=v.id):=decide_eq_decide.2 eq_comm;have e6:(decide (v.rest=w.rest))=decide (w.rest=v.rest):=decide_eq_decide.2 eq_comm;rw[e1,e2,e3,e4,e5,e6]
theorem Hk (v w:Vl):v.same w=w.same v:=Ip (SizeOf.sizeOf v+1) v w (by omega)
section
section
variable (sn:Bool) (S:List BC) (t:Int)
theorem Pu (v:Vl)(h:IC 63 [MD sn S,.int .i64 t,.agg (TC v),.bool false] (.bool true)):IC 173 [.agg (TC v),.bp [.sl sn (S.map QC)],.bp [.int .i64 t],.bp [.bool false]] (.bool false):=by
 refine mC (c:=pH) rfl rfl ?_;simp only[IC,nC]at h ⊢;simp[pH,-J,-y4,-y3,y0,h]
theorem sU (l:List Vl)(hl:l.length<=9223372036854775807)(b:Bool)(h:∀v∈l,IC 63 [MD sn S,.int .i64 t,.agg (TC v),.bool false] (.bool true)):IC 110 [MD sn S,.int .i64 t,.sl b (l.map TC),.bool false] (.bool true):=by
 have hi:=mU 173 [.bp [.sl sn (S.map QC)],.bp [.int .i64 t],.bp [.bool false]] l (fun _=>false) hl (fun _ _=>rfl) (fun v hv=>Pu sn S t v (h v hv)) b;have hn:kE (fun _:Vl=>false) l=-1:=by
  have h1:=CM (fun _:Vl=>false) l;have h2:(l.any fun _=>false)=false:=by simp
  rw[h2]at h1;have h3:=kH (fun _:Vl=>false) l;have h4:¬0<=kE (fun _:Vl=>false) l:=of_decide_eq_false h1;omega
 rw[hn]at hi;have hc:IC 172 [.sl b (l.map TC),.fn 173 [.bp [.sl sn (S.map QC)],.bp [.int .i64 t],.bp [.bool false]]] (.bool false):=by
  refine mC (c:=WD) rfl rfl ?_;simp only[IC]at hi;simp[WD,-J,-y4,-y3,y0,hi]
 refine mC (c:=IJ) rfl rfl ?_;simp only[IC]at hc;simp[IJ,-J,-y4,-y3,y0,hc]
variable (x:BC) (v:Vl) (h0:0<=t) (sa:¬ (S.length:Int)<=t) (g:(S.map QC)[t.toNat]?=some (QC x)) (hp:IC 106 [.agg (TC v)] (.bool true))
include h0 sa g hp
theorem fitsF1 (hk:x.kind=1)(hv:v.kind=1):IC 63 [MD sn S,.int .i64 t,.agg (TC v),.bool false] (.bool true):=by
 have ab:¬t<0:=by omega
 simp only[IC,QC,nC,hk,hv]at hp g;refine mC (c:=UC) rfl rfl ?_;rw[nC];simp[UC,-J,-y4,-y3,y0,ab,sa,h0,g,hp,hk,hv]
theorem fitsF2 (hk:x.kind=2)(hv:v.kind=2)(c1:x.low<=v.i)(c2:v.i<=x.high):IC 63 [MD sn S,.int .i64 t,.agg (TC v),.bool false] (.bool true):=by
 have ab:¬t<0:=by omega
 simp only[IC,QC,nC,hk,hv]at hp g;refine mC (c:=UC) rfl rfl ?_;rw[nC];simp[UC,-J,-y4,-y3,y0,ab,sa,h0,g,hp,hk,hv,c1,c2]
theorem fitsF3 (hk:x.kind=3)(hv:v.kind=3)(c1:(v.s.size:Int)<=x.max):IC 63 [MD sn S,.int .i64 t,.agg (TC v),.bool false] (.bool true):=by
 have ab:¬t<0:=by omega
 simp only[IC,QC,nC,hk,hv]at hp g;refine mC (c:=UC) rfl rfl ?_;rw[nC];simp[UC,-J,-y4,-y3,y0,ab,sa,h0,g,hp,hk,hv,c1]
theorem fitsF4 (hk:x.kind=4)(hv:v.kind=4)(hs:IC 107 [.agg (QC x),.int .i64 v.id] (X2 x.tA v.id))(c1:0<=ZP x.tA v.id):IC 63 [MD sn S,.int .i64 t,.agg (TC v),.bool false] (.bool true):=by
 have ab:¬t<0:=by omega
 simp only[IC,QC,nC,hk,hv]at hp g;refine mC (c:=UC) rfl rfl ?_;rw[nC];simp only[IC,QC,X2,hk]at hs;generalize ZP x.tA v.id=ix at *
 simp only[c1,decide_true]at hs;simp[UC,-J,-y4,-y3,y0,ab,sa,h0,g,hp,hk,hv,hs,c1]
theorem fitsF7 (hk:x.kind=7)(hv:v.kind=7)(he:IC 110 [MD sn S,.int .i64 x.elem,.sl v.xn (v.items.map TC),.bool false] (.bool true))(c1:(v.items.length:Int)<=x.max):IC 63 [MD sn S,.int .i64 t,.agg (TC v),.bool false] (.bool true):=by
 have ab:¬t<0:=by omega
 simp only[IC,QC,nC,hk,hv]at hp g;refine mC (c:=UC) rfl rfl ?_;rw[nC];simp only[IC]at he;simp[UC,-J,-y4,-y3,y0,ab,sa,h0,g,hp,hk,hv,c1,he]
theorem fitsF9 (hk:x.kind=9)(hv:v.kind=9)(he:IC 110 [MD sn S,.int .i64 x.elem,.sl v.xn (v.items.map TC),.bool false] (.bool true))(c1:v.items.length<=1):IC 63 [MD sn S,.int .i64 t,.agg (TC v),.bool false] (.bool true):=by
 have ab:¬t<0:=by omega
 simp only[IC,QC,nC,hk,hv]at hp g;refine mC (c:=UC) rfl rfl ?_;rw[nC];simp only[IC]at he;have c2:(v.items.length:Int)<=1:=by omega
 simp[UC,-J,-y4,-y3,y0,ab,sa,h0,g,hp,hk,hv,c1,c2,he]
theorem fitsF5 (hk:x.kind=5)(hv:v.kind=5)(zl:x.qA.length<=9223372036854775807)(c1:v.items.length=x.qA.length)(c2:v.rest=[])(hf:∀(i:Nat) m u,x.qA[i]?=some m->v.items[i]?=some u->IC 63 [MD sn S,.int .i64 m.ty,.agg (TC u),.bool false] (.bool true)):IC 63 [MD sn S,.int .i64 t,.agg (TC v),.bool false] (.bool true):=by
 have ab:¬t<0:=by omega
 simp only[IC,QC,nC,hk,hv]at hp g;refine mC (c:=UC) rfl rfl ?_;rw[nC];rw[c2]at hp ⊢;simp only[yq]at hp;simp[UC,-J,-y4,-y3,y0,ab,sa,h0,g,hp,hk,hv,c1,c2];refine EC ?_;simp[rN,-J,-y4,-y3,y0];refine ZC x.qA.length (fun i s=>(s.env 3).v=.bool false/\(s.env 4).v=.ptr 4 1 0/\s.mem 4 1=some [⟨.sl sn (S.map QC),.no⟩]/\(s.env 6).v=.ptr 6 1 0/\s.mem 6 1=some ([⟨.int .i64 5,.no⟩,⟨.bool v.b,.no⟩,⟨.int .i64 v.i,.no⟩,⟨.str v.s,.no⟩,⟨.int .i64 v.id,.no⟩,⟨.sl v.kn (v.keys.map TC),.no⟩,⟨.sl v.xn (v.items.map TC),.no⟩,⟨.sl v.rn [],.no⟩])/\(s.env 150).v=.sl x.mn (x.qA.map uD)/\(s.env 151).v=.int .i64 x.qA.length/\(s.env 152).v=.int .i64 i)
  (fun e s=>e=.exit 3) (fun i hi s k h ih jc=>?_) _ _ ?_ (fun e s h=>?_)
 ·obtain ⟨e3,e4,m4,e6,m6,co,gk,io⟩:=h;refine EC ?_;by_cases fa:i<x.qA.length
  ·have ga:(i:Int)<x.qA.length:=by omega
   have sd:i<v.items.length:=by omega
   have g1:(x.qA.map uD)[i]?=some (uD x.qA[i]):=by simp[fa]
   have g2:(v.items.map TC)[i]?=some (TC v.items[i]):=by simp[sd]
   have hw:=cD (i:=i);have hx:=hf i x.qA[i] v.items[i] (y7 fa) (y7 sd);generalize x.qA[i]=m at *
   generalize v.items[i]=u at *
   simp only[IC,uD,nC]at g1 g2 hx;simp[sH,-J,-y4,-y3,y0,e3,e4,m4,e6,m6,co,gk,io,ga,g1,g2,hx,hw];refine ih fa _ ⟨?_,?_,?_,?_,?_,?_,?_,?_⟩<;>simp[e3,e4,m4,e6,m6,co,gk]
  ·have ga:¬ (i:Int)<x.qA.length:=by omega
   simp[sH,-J,-y4,-y3,y0,gk,io,ga];exact jc _ _ rfl
 ·simp[-J,-y4,-y3,y0]
 ·subst h;simp[-J,-y4,-y3,y0]
theorem fitsF6 (hk:x.kind=6)(hv:v.kind=6)(hm:IC 109 [.agg (QC x),.int .i64 v.id] (OU x.qA v.id))(c1:0<=dE x.qA v.id)(c3:v.rest=[]){m:RE}{u:Vl}(ji:x.qA[(dE x.qA v.id).toNat]?=some m)(hu:v.items=[u])(hf:IC 63 [MD sn S,.int .i64 m.ty,.agg (TC u),.bool false] (.bool true)):IC 63 [MD sn S,.int .i64 t,.agg (TC v),.bool false] (.bool true):=by
 have ab:¬t<0:=by omega
 simp only[IC,QC,nC,hk,hv]at hp g;refine mC (c:=UC) rfl rfl ?_;rw[nC];simp only[IC,QC,OU,hk]at hm;generalize dE x.qA v.id=ix at *
 simp only[c1,decide_true]at hm;have bn:max ix 0=ix:=Int.max_eq_left c1;rw[bn]at hm;have g2:(x.qA.map uD)[ix.toNat]?=some (uD m):=by rw[yb,ji];rfl
 simp only[uD]at g2;simp only[IC,nC]at hf;rw[hu,c3]at hp ⊢;simp only[nC,yk,yq]at hp;simp[UC,-J,-y4,-y3,y0,ab,sa,h0,g,hp,hk,hv,hm,g2,c1,hf,nC]
theorem fitsF8 (hk:x.kind=8)(hv:v.kind=8)(hr:v.rest=[])(bn:x.max<=50)(bk:∀k∈v.keys,LI k.i)(he:IC 110 [MD sn S,.int .i64 x.elem,.sl v.xn (v.items.map TC),.bool false] (.bool true))(uc:IC 110 [MD sn S,.int .i64 x.key,.sl v.kn (v.keys.map TC),.bool false] (.bool true))(uf:(v.keys.length:Int)<=x.max)(c2:v.items.length=v.keys.length)(kq:eN v.keys=true):IC 63 [MD sn S,.int .i64 t,.agg (TC v),.bool false] (.bool true):=by
 have ab:¬t<0:=by omega
 simp only[IC,QC,nC,hk,hv]at hp g;refine mC (c:=UC) rfl rfl ?_;rw[nC];simp only[hr,yq]at hp ⊢;simp only[IC]at he uc;have c1:¬x.max<v.keys.length:=by omega
 have xk:v.keys.length<=50:=by omega
 simp[UC,-J,-y4,-y3,y0,ab,sa,h0,g,hp,hk,hv,hr,c1,uf,c2,uc];refine ZC (v.keys.length-1) (fun i s=>(s.env 3).v=.bool false/\(s.env 4).v=.ptr 4 1 0/\s.mem 4 1=some [⟨.sl sn (S.map QC),.no⟩]/\(s.env 9).v=.ptr 9 3 0/\s.mem 9 3=some (ID x)/\(s.env 6).v=.ptr 6 1 0/\s.mem 6 1=some (kF v)/\(s.env 20).v=.int .i64 ((i+1:Nat):Int)/\eN (v.keys.drop i)=true)
  (fun e s=>(e=.exit 5/\(s.env 3).v=.bool false/\(s.env 4).v=.ptr 4 1 0/\s.mem 4 1=some [⟨.sl sn (S.map QC),.no⟩]/\(s.env 9).v=.ptr 9 3 0/\s.mem 9 3=some (ID x)/\(s.env 6).v=.ptr 6 1 0/\s.mem 6 1=some (kF v))) (fun i hi s k h ih jc=>?_) _ _ ?_ (fun e s h=>?_)
 ·obtain ⟨e3,e4,m4,e9,m9,e6,m6,e20,hs⟩:=h;refine EC ?_;by_cases fa:i<v.keys.length - 1
  ·have zm:i<v.keys.length:=by omega
   have oj:i+1<v.keys.length:=by omega
   have hx:=Oy v.keys[i] v.keys[i+1] (bk _ (y8 _)) (bk _ (y8 _));have g1:(v.keys.map TC)[i]?=some (TC v.keys[i]):=by simp[zm]
   have g2:(v.keys.map TC)[i+1]?=some (TC v.keys[i+1]):=by simp[oj]
   rw[yc zm,yc oj,eN]at hs;have uj:(decide (KT v.keys[i] v.keys[i+1]<0)&&eN (v.keys.drop (i+1)))=true:=by rw[<- hs,yc oj]
   clear hs;generalize v.keys[i]=a at *
   generalize v.keys[i+1]=b at *
   obtain⟨z,hz⟩:∃z:Int,z=((i+1:Nat):Int):=⟨_,rfl⟩;obtain⟨y,hy⟩:∃y:Int,y=(i:Int):=⟨_,rfl⟩;rw[<- hz]at e20;have jg:0<=z:=by omega
   have tg:0<=y:=by omega
   have ph:z<v.keys.length:=by omega
   have tp:IntKind.i64.wrap (z-1)=y:=by rw[IntWalk.i64_in _ (by omega)];omega
   have zk:IntKind.i64.wrap (z+1)=((i+1+1:Nat):Int):=by rw[IntWalk.i64_in _ (by omega)];omega
   rw[show i=y.toNat from by omega]at g1;rw[show i+1=z.toNat from by omega]at g2;simp only[IC,nC]at g1 g2 hx;simp only[y9,decide_eq_true_eq]at uj;have ze:¬0<=KT a b:=by omega
   simp[aH,-J,-y4,-y3,y0,e6,m6,e20,ph,jg,tg,tp,g1,g2,hx,ze,zk];refine ih fa _ ⟨?_,?_,?_,?_,?_,?_,?_,?_,uj.2⟩<;>simp[e6,m6,e3,e4,m4,e9,m9]
  ·obtain ⟨z,hz⟩:∃ z:Int,z=((i + 1:Nat):Int):=⟨_,rfl⟩;rw [<- hz] at e20;have ph:¬ z<v.keys.length:=by omega
   simp[aH,-J,-y4,-y3,y0,e6,m6,e20,ph];exact jc _ _ ⟨rfl,by simp[e3],by simp[e4],by simp[m4],by simp[e9],by simp[m9],by simp[e6],by simp[m6]⟩
 ·simp[hk,hv,hr,kq]
 ·obtain⟨rfl,e3,e4,m4,e9,m9,e6,m6⟩:=h;simp[-J,-y4,-y3,y0,e3,e4,m4,e9,m9,e6,m6,he,hk]
end
theorem EQ {f:Int->Vl->Bool}:∀{l:List RE}{q:List Vl},nG f l q=true->∀(i:Nat) m u,l[i]?=some m->q[i]?=some u->f m.ty u=true
 | [],_,_,i,m,u,h,_=>by simp at h
 |m::r,[],_,i,_,u,_,h=>by simp at h
 |m::r,v::q,h,i,m',u,h1,h2=>by
  simp only[nG,y9]at h
  match i with
  |0 =>
   simp at h1 h2;subst h1;subst h2;exact h.1
  |i+1=>exact EQ h.2 i m' u (by simpa using h1) (by simpa using h2)
theorem kP {f:Int->Vl->Bool}{m:Option RE}{a b:Bool}{l:List Vl}(h:CG f m a b l=true):∃m' u,m=some m'/\l=[u]/\a=true/\b=true/\f m'.ty u=true:=by
 match l,m,h with
 | [u],some m',h =>
  simp only[CG,y9]at h;exact⟨m',u,rfl,rfl,h.1.1,h.1.2,h.2⟩
theorem Hf (sn:Bool)(S:List BC)(hS:NQ S):∀(n:Nat)(t:Int)(v:Vl),EF S n t v=true->v.ok->v.i64->IC 63 [MD sn S,.int .i64 t,.agg (TC v),.bool false] (.bool true):=by
 intro n
 induction n with
 |zero=>intro t v h;simp[EF]at h
 |succ n ih =>
  intro t v h la ub;rw[EF]at h;simp only[y9,Bool.not_eq_true']at h;obtain⟨ho,h⟩:=h;obtain⟨h0,sa⟩:0<=t/\¬(S.length:Int)<=t:=by
   simp[mD]at ho;omega
  have fa:t.toNat<S.length:=by omega
  have gc:S[t.toNat]∈S:=y8 _;have g:(S.map QC)[t.toNat]?=some (QC S[t.toNat]):=by rw[yb,y7 fa];rfl
  rw[y7 fa]at h;generalize S[t.toNat]=x at *
  obtain⟨dh,gj⟩:=hS x gc;have wl:=dH dh;simp only[y9,decide_eq_true_eq]at h;obtain⟨⟨hk,hz⟩,wa⟩:=h;have hp:=d4 v (by rw[hk];exact wl);rw[hz]at hp;rw[Vl.NA]at la;rw[Vl.KA]at ub;obtain⟨o1,o2,o3,o4,o5,o6⟩:=la;obtain⟨j1,j2,j3⟩:=ub;have kf:∀u∈v.items,∀t',EF S n t' u=true->IC 63 [MD sn S,.int .i64 t',.agg (TC u),.bool false] (.bool true):=fun u hu t' hf=>ih t' u hf (o6 u hu) (j3 u hu)
  have uc:∀u∈v.keys,∀t',EF S n t' u=true->IC 63 [MD sn S,.int .i64 t',.agg (TC u),.bool false] (.bool true):=fun u hu t' hf=>ih t' u hf (o5 u hu) (j2 u hu)
  have ec:x.qA.length<=9223372036854775807:=gj.1.2.1;have sk:x.tA.length<=9223372036854775807:=gj.1.1;have hv:=hk;unfold aO at wa;rcases kinds x.kind with e|e|e|e|e|e|e|e|e|e
  all_goals try rw[e]at hv
  all_goals try simp only[e]at wa
  all_goals try simp at wa
  ·exact fitsF1 sn S t x v h0 sa g hp e hv
  ·exact fitsF2 sn S t x v h0 sa g hp e hv wa.1 wa.2
  ·exact fitsF3 sn S t x v h0 sa g hp e hv wa
  ·exact fitsF4 sn S t x v h0 sa g hp e hv (Ol x v.id sk) wa
  ·exact fitsF5 sn S t x v h0 sa g hp e hv ec wa.1.1 wa.1.2 (fun i m u h1 h2=>kf u (yQ h2) m.ty (EQ wa.2 i m u h1 h2))
  ·obtain⟨m,u,g1,g2,g3,g4,g5⟩:=kP wa;exact fitsF6 sn S t x v h0 sa g hp e hv (Pq x v.id ec) (by simpa using g3) (by simpa using g4) g1 g2 (kf u (by rw[g2];simp) m.ty g5)
  ·exact fitsF7 sn S t x v h0 sa g hp e hv (sU sn S x.elem v.items o2 v.xn fun u hu=>kf u hu x.elem (wa.2 u hu)) wa.1
  ·exact fitsF8 sn S t x v h0 sa g hp e hv (by simp[WF,hv]at hz;simp[hz]) (cU dh e) (fun u hu=>((Vl.KA u).1 (j2 u hu)).1) (sU sn S x.elem v.items o2 v.xn fun u hu=>kf u hu x.elem (wa.2 u hu)) (sU sn S x.key v.keys o1 v.kn fun u hu=>uc u hu x.key (wa.1.1.2 u hu)) wa.1.1.1.1 wa.1.1.1.2 wa.1.2
  ·exact fitsF9 sn S t x v h0 sa g hp e hv (sU sn S x.elem v.items o2 v.xn fun u hu=>kf u hu x.elem (wa.2 u hu)) wa.1
  ·exact absurd wl e
end
end Go.Proofs.YthnefkpplcmjdaaGreat
