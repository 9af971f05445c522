/- A part of the proof. -/
import Derived.Test.YtbhbeakhognieaaGreatW1
set_option linter.all false
set_option maxRecDepth 100000
set_option maxHeartbeats 8000000
open Option renaming bind_some → J, map_some → yr
open List renaming range_succ → y0, map_map → y3, getElem_mem → y8, getElem?_eq_some_iff → y9, map_cons → yf, mem_cons → yg, mem_of_getElem? → yh, map_nil → ym, take_of_length_le → yB, length_cons → yF, map_append → yH, cons_append → yR
open Int renaming toNat_lt → y4
open Bool renaming and_eq_true → y7
open Nat renaming le_refl → yj
namespace Go.Proofs.YtbhbeakhognieaaGreat
open Go
def M9 (m:zB) (v:Vl):Bool:=m.has&&m.dflt.same v
def rC {α β:Type} (f:α->Option β):List α->Option (List β)
 | []=>some []
 | v :: r=>(f v).bind fun u=>(rC f r).map (u :: ·)
def UH (f:Int->Vl->Int->Option Vl) (x:pA) (v:Vl) (n:zB):Option Vl :=
 if QA x.mems n.id<0 then (if n.has then some n.dflt else none)
 else match x.mems[(QA x.mems n.id).toNat]?,v.items[(QA x.mems n.id).toNat]? with
  | some m,some it=>(f m.ty it n.ty).bind fun u=>if M9 m it&&!M9 n u then none else some u
  | _,_=>none
def OI (p:Int->Vl->ByteArray) (y:pA) (a:zB × Vl):Option (Option u9) :=
 if 0<=QA y.mems a.1.id then some none else if a.1.crit then none else if M9 a.1 a.2 then some none else some (some ⟨a.1.id,p a.1.ty a.2⟩)
def restR (p:Int->Vl->ByteArray) (y:pA) (ms:List zB) (items:List Vl):Option (List u9):=(rC (OI p y) (ms.zip items)).map fun qs=>qs.filterMap id
def aL (p:Int->Vl->ByteArray) (f:Int->Vl->Int->Option Vl) (x:pA) (v:Vl) (y:pA):Option Vl :=
 (rC (UH f x v) y.mems).bind fun xs=>(restR p y x.mems v.items).map fun rs=>.mk v.kind false 0 ⟨#[]⟩ 0 true [] (decide (xs=[])) xs (decide (rs=[])) rs
def GR (p:Int->Vl->ByteArray) (f:Int->Vl->Int->Option Vl) (x:pA) (v:Vl) (y:pA):Option Vl :=
 match x.mems[(QA x.mems v.id).toNat]?,v.items with
 | some m,it :: _=>if QA y.mems v.id<0 then (if y.opn then some (.mk v.kind false 0 ⟨#[]⟩ v.id true [] true [] false [⟨v.id,p m.ty it⟩]) else none)
  else match y.mems[(QA y.mems v.id).toNat]? with
   | some n=>(f m.ty it n.ty).map fun u=>.mk v.kind false 0 ⟨#[]⟩ v.id true [] false [u] true []
   | none=>none
 | _,_=>none
def rR (p:Int->Vl->ByteArray) (f:Int->Vl->Int->Option Vl) (x:pA) (v:Vl) (y:pA):Option Vl :=
 if x.kind≠y.kind then none
 else if x.kind=2/\(v.i<y.low\/y.high<v.i) then none
 else if x.kind=3/\y.max<v.s.size then none
 else if x.kind=4/\ZF y.syms v.id<0/\y.opn=false then none
 else if (x.kind=7\/x.kind=8)/\y.max<v.items.length then none
 else if x.kind=6 then GR p f x v y
 else if x.kind=5 then aL p f x v y
 else (rC (fun k=>f x.key k y.key) v.keys).bind fun ks=>(rC (fun u=>f x.elem u y.elem) v.items).map fun xs=>.mk v.kind v.b v.i v.s v.id (decide (ks=[])) ks (decide (xs=[])) xs v.rn v.rest
noncomputable def rH (S R:List pA):Nat->Int->Vl->Int->Option Vl
 | 0,_,_,_=>none
 | n + 1,wt,v,rt=>match S[wt.toNat]?,R[rt.toNat]? with
  | some x,some y=>rR (eP S) (rH S R n) x v y
  | _,_=>none
def aB (o:Option Vl) (pb:Bool) (p:List Int):List AV:=match o with
 | some u=>[.int .i64 u.kind,.bool u.b,.int .i64 u.i,.str u.s,.int .i64 u.id,.sl u.kn (u.keys.map fA),.sl u.xn (u.items.map fA),.sl u.rn (u.rest.map UJ),.sl pb (p.map CD),.bool true]
 | none=>[.int .i64 0,.bool false,.int .i64 0,.str ⟨#[]⟩,.int .i64 0,.sl true [],.sl true [],.sl true [],.sl pb (p.map CD),.bool false]
theorem els_pth (p:List Int):iB 1 (p.map CD)=true:=KB _ _ _ fun _=>rfl
theorem GY (pb:Bool) (p:List Int) (z:Int) (h:p.length<=1000000):gA 101 [.sl pb (p.map CD),.int .i64 z] (.sl false ((p++[z]).map CD)):=by
 have r1:ZA 8 p.length=true:=by rw [xA]; omega
 have r2:ZA 8 (p.length + 1)=true:=by rw [xA]; omega
 have r3:ZA 8 0=true:=by rw [xA]; omega
 have r4:ZA 8 1=true:=by rw [xA]; omega
 have ac:=els_pth p;refine rA (c:=qM) rfl rfl ?_;cases p <;> simp [qM,-J,-y4,-y3,y0,BA,CD,r1,r2,r3,r4] at * <;> simp [qM,-J,-y4,-y3,y0,BA,CD,r1,r2,r3,r4,ac]
theorem xT (pb:Bool) (p:List Int) (h:p.length<=1000000):gA 97 [.sl pb (p.map CD)] (.agg (aB none false p)):=by
 have r1:ZA 8 p.length=true:=by rw [xA]; omega
 have ac:=els_pth p;refine rA (c:=uI) rfl rfl ?_;simp [uI,-J,-y4,-y3,y0,BA,r1,ac,aB]
theorem rok2_ev (v:Vl):gA 102 [.agg (fA v)] (.agg (aB (some v) true [])):=by
 refine rA (c:=bL) rfl rfl ?_;simp [bL,-J,-y4,-y3,y0,qA v,aB]
theorem B4 (m:zB) (v:Vl) (h:m.dflt.ok):gA 133 [.agg (nA m),.agg (fA v)] (.bool (M9 m v)):=by
 have he:=rvequal_ev m.dflt v h;simp only [gA,qA] at he;refine rA (c:=GG) rfl rfl ?_;unfold M9;cases hh:m.has <;> simp [GG,-J,-y4,-y3,y0,nA,qA v,hh,he]
def RdP (w r:FI) (B:Nat) (wt:Int) (v:Vl) (rt:Int) (o:Option Vl):Prop:=∀ (pb:Bool) (p:List Int),p.length + B<=1000000->∃ (qb:Bool) (q:List Int),gA 59 [.agg (GA w),.int .i64 wt,.agg (fA v),.agg (GA r),.int .i64 rt,.sl pb (p.map CD)] (.agg (aB o qb q))
theorem WK (k:Int) (b:Bool) (i:Int) (s:ByteArray) (d:Int) (kn:Bool) (ks:List Vl) (xn:Bool) (xs:List Vl) (rn:Bool) (rs:List u9):gA 102 [.agg [.int .i64 k,.bool b,.int .i64 i,.str s,.int .i64 d,.sl kn (ks.map fA),.sl xn (xs.map fA),.sl rn (rs.map UJ)]] (.agg [.int .i64 k,.bool b,.int .i64 i,.str s,.int .i64 d,.sl kn (ks.map fA),.sl xn (xs.map fA),.sl rn (rs.map UJ),.sl true [],.bool true]):=by
 have h:=rok2_ev (.mk k b i s d kn ks xn xs rn rs);rw [qA] at h;exact h
theorem runion_ev (w r:FI) (x y:pA) (v it:Vl) {m:zB} (lw:x.mems.length<=9223372036854775807) (jj:y.mems.length<=9223372036854775807) (c1:0<=QA x.mems v.id) (hm:x.mems[(QA x.mems v.id).toNat]?=some m) (hi:v.items=[it]) (pay:Int->Vl->ByteArray) (hp:ZG w.nl w.types m.ty it (pay m.ty it)) (f:Int->Vl->Int->Option Vl) (B:Nat)
  (hf:∀ n,y.mems[(QA y.mems v.id).toNat]?=some n->RdP w r B m.ty it n.ty (f m.ty it n.ty)) (pb:Bool) (p:List Int) (pd:p.length + (B + 1)<=1000000) :
  ∃ (qb:Bool) (q:List Int),gA 99 [.agg (GA w),.agg (eA x),.agg (fA v),.agg (GA r),.agg (eA y),.sl pb (p.map CD)] (.agg (aB (GR pay f x v y) qb q)):=by
 have jf:=kO x v.id lw;have zq:=kO y v.id jj;have gm:(x.mems.map nA)[(QA x.mems v.id).toNat]?=some (nA m):=by simp [hm]
 unfold GR;rw [hm,hi];simp only;have th:¬ QA x.mems v.id<0:=by omega
 have mx:max (QA x.mems v.id) 0=QA x.mems v.id:=by omega
 simp only [gA,BO,eA] at jf zq;by_cases c2:QA y.mems v.id<0
 ·have gl:¬ 0<=QA y.mems v.id:=by omega
  rw [if_pos c2];cases fb:y.opn with
  | false =>
   have ii:=xT pb p (by omega);refine ⟨false,p,?_⟩;simp only [gA] at ii;refine rA (c:=zD) rfl rfl ?_;simp only [aB] at ii;rw [fb] at zq;simp [zD,-J,-y4,-y3,y0,GA,eA,qA v,aB,jf,zq,c1,gl,fb,ii]
  | true =>
   refine ⟨true,[],?_⟩;have dg:=WK v.kind false 0 ⟨#[]⟩ v.id true [] true [] false [⟨v.id,pay m.ty it⟩];simp only [ZG,gA,QD,qA it] at hp;simp only [gA,ym,yf,UJ] at dg;simp only [nA] at gm;have e:aB (some (.mk v.kind false 0 ⟨#[]⟩ v.id true [] true [] false [⟨v.id,pay m.ty it⟩])) true []=[.int .i64 v.kind,.bool false,.int .i64 0,.str ⟨#[]⟩,.int .i64 v.id,.sl true [],.sl true [],.sl false [[.int .i64 v.id,.str (pay m.ty it)]],.sl true [],.bool true]:=rfl;simp only [if_true];rw [e];rw [fb] at zq;refine rA (c:=zD) rfl rfl ?_;simp [zD,-J,-y4,-y3,y0,GA,eA,qA v,qA it,hi,jf,zq,c1,gl,fb,mx,gm,hp,dg]
 ·rw [if_neg c2];have gl:0<=QA y.mems v.id:=by omega
  have my:max (QA y.mems v.id) 0=QA y.mems v.id:=by omega
  obtain ⟨n,hn,_⟩:=EI (fun z:zB=>decide (z.id=v.id)) y.mems (by unfold QA at gl; omega);change y.mems[(QA y.mems v.id).toNat]?=some n at hn;have gn:(y.mems.map nA)[(QA y.mems v.id).toNat]?=some (nA n):=by simp [hn]
  rw [hn];simp only;have bg:=GY pb p v.id (by omega);obtain ⟨qb,q,hr⟩:=hf n hn false (p++[v.id]) (by simp; omega);simp only [nA] at gm gn;simp only [gA,GA,qA it,yH,yf,ym] at hr bg;cases ho:f m.ty it n.ty with
  | none =>
   refine ⟨qb,q,?_⟩;rw [ho] at hr;simp only [aB] at hr;refine rA (c:=zD) rfl rfl ?_;simp [zD,-J,-y4,-y3,y0,GA,eA,qA v,qA it,hi,aB,jf,zq,c1,gl,mx,my,gm,gn,bg,hr]
  | some u =>
   refine ⟨true,[],?_⟩;rw [ho] at hr;simp only [aB] at hr;have dg:=WK v.kind false 0 ⟨#[]⟩ v.id true [] false [u] true [];simp only [gA,ym,yf,qA] at dg;have e:aB (some (.mk v.kind false 0 ⟨#[]⟩ v.id true [] false [u] true [])) true []=[.int .i64 v.kind,.bool false,.int .i64 0,.str ⟨#[]⟩,.int .i64 v.id,.sl true [],.sl false [fA u],.sl true [],.sl true [],.bool true]:=rfl;simp only [yr];rw [e,qA u];refine rA (c:=zD) rfl rfl ?_;simp [zD,-J,-y4,-y3,y0,GA,eA,qA v,qA it,hi,jf,zq,c1,gl,mx,my,gm,gn,bg,hr,dg]
theorem iM {α β:Type} (f:α->Option β):∀ (l:List α) (a:α),rC f (l++[a])=(rC f l).bind fun ks=>(f a).map fun u=>ks++[u]
 | [],a=>by cases h:f a <;> simp [rC,h]
 | b :: r,a=>by
  rw [yR,rC,rC,iM f r a];cases f b <;> cases rC f r <;> cases f a <;> simp
theorem uM {α β:Type} (f:α->Option β):∀ (l:List α) (a:α),a∈l->f a=none->rC f l=none
 | b :: r,a,h,ha=>by
  rw [rC];rcases yg.1 h with rfl | h
  ·rw [ha]; rfl
  ·rw [uM f r a h ha]; cases f b <;> rfl
theorem EN {α β:Type} (f:α->Option β):∀ (l:List α) {ks:List β},rC f l=some ks->ks.length=l.length
 | [],ks,h=>by injection h with h; subst h; rfl
 | b :: r,ks,h=>by
  rw [rC] at h;cases hb:f b with
  | none=>rw [hb] at h; cases h
  | some u =>
   rw [hb] at h;cases hr:rC f r with
   | none=>rw [hr] at h; cases h
   | some q =>
    rw [hr] at h;simp at h;subst h;simp [EN f r hr]
def JI (v:Vl) (kn:Bool) (ks:List Vl) (ka:An) (xn:Bool) (xs:List Vl) (xa:An):List wA:=[⟨.int .i64 v.kind,.no⟩,⟨.bool v.b,.no⟩,⟨.int .i64 v.i,.no⟩,⟨.str v.s,.no⟩,⟨.int .i64 v.id,.no⟩,⟨.sl kn (ks.map fA),ka⟩,⟨.sl xn (xs.map fA),xa⟩,⟨.sl v.rn (v.rest.map UJ),.no⟩]
structure RdI (w r:FI) (x y:pA) (v:Vl) (pb:Bool) (p:List Int) (s:aA):Prop where
 e5:(s.env 5).v=.sl pb (p.map CD)
 b6:∃ n,(s.env 6).v=.ptr 6 n 0/\s.mem 6 n=some [⟨.sl w.nl (w.types.map eA),.no⟩]
 b8:∃ n,(s.env 8).v=.ptr 8 n 0/\s.mem 8 n=some (OA v)
 b9:∃ n,(s.env 9).v=.ptr 9 n 0/\s.mem 9 n=some [⟨.sl r.nl (r.types.map eA),.no⟩]
 b12:∃ n R,(s.env 12).v=.ptr 12 n 0/\s.mem 12 n=some R/\R.length=10
 b13:∃ n,(s.env 13).v=.ptr 13 n 0/\s.mem 13 n=some (sA x)
 b14:∃ n,(s.env 14).v=.ptr 14 n 0/\s.mem 14 n=some (sA y)
def KeyA (n:Nat) (kn:Bool) (ks:List Vl) (ka:An):Prop:=(kn=true/\ka=.ex/\ks=[])\/(kn=false/\ks≠[]/\ka=.own n 41)
def fZ (s:aA):Prop:=∃ n qb q,(s.env 12).v=.ptr 12 n 0/\s.mem 12 n=some ((aB none qb q).map fun v=>⟨v,.no⟩)
theorem wO {rv:RV} (w r:FI) (x y:pA) (v:Vl) (pb:Bool) (p:List Int) (B:Nat) (pd:p.length + (B + 1)<=1000000) (lg:v.keys.length<=1000000) (f:Vl->Option Vl) (H:∀ u∈v.keys,RdP w r B x.key u y.key (f u))
  (s:aA) (h:RdI w r x y v pb p s) (xj:(s.env 18).v=.int .i64 0) (nk:∃ n,(s.env 17).v=.ptr 17 n 0/\s.mem 17 n=some (JI v true [] .ex true [] .ex)) (k:Ex->aA->Option RV)
  (hk:∀ s' ks kn ka,rC f v.keys=some ks->RdI w r x y v pb p s'->KeyA 162 kn ks ka->(∃ n,(s'.env 17).v=.ptr 17 n 0/\s'.mem 17 n=some (JI v kn ks ka true [] .ex))->k (.exit 0) s'=some rv)
  (hr:∀ s',rC f v.keys=none->fZ s'->k .ret s'=some rv):WI jA tA uF s k=some rv:=by
 refine RA v.keys.length (fun i s=>RdI w r x y v pb p s/\(s.env 18).v=.int .i64 i/\∃ n kn ks ka,(s.env 17).v=.ptr 17 n 0/\s.mem 17 n=some (JI v kn ks ka true [] .ex)/\KeyA 162 kn ks ka/\rC f (v.keys.take i)=some ks)
  (fun e s=>(e=.exit 0/\RdI w r x y v pb p s/\∃ n kn ks ka,(s.env 17).v=.ptr 17 n 0/\s.mem 17 n=some (JI v kn ks ka true [] .ex)/\KeyA 162 kn ks ka/\rC f v.keys=some ks)\/(e=.ret/\rC f v.keys=none/\fZ s)) (fun i hi s k h ih jb=>?_) _ _ ?_ (fun e s h=>?_)
 ·obtain ⟨hI,xj,wj,kn,ks,ka,ld,mi,rm,tk⟩:=h;obtain ⟨e5,⟨n6,e6,m6⟩,⟨n8,e8,m8⟩,⟨n9,e9,m9⟩,⟨mc,R,e12,mb,hR⟩,⟨te,wb,sb⟩,⟨uj,jc,eh⟩⟩:=hI;refine iA ?_;simp only [OA] at m8;simp only [sA] at sb eh;simp only [JI] at mi;obtain ⟨r0,r1,r2,r3,r4,r5,r6,r7,r8,r9,rfl⟩:∃ r0 r1 r2 r3 r4 r5 r6 r7 r8 r9,R=[r0,r1,r2,r3,r4,r5,r6,r7,r8,r9]:=by
   match R,hR with
   | [r0,r1,r2,r3,r4,r5,r6,r7,r8,r9],_=>exact ⟨_,_,_,_,_,_,_,_,_,_,rfl⟩
  by_cases fa:i<v.keys.length
  ·have ga:(i:Int)<v.keys.length:=by omega
   have hu:=H _ (y8 fa);have g1:(v.keys.map fA)[i]?=some (fA v.keys[i]):=by simp [fa]
   have dd:rC f (v.keys.take (i + 1))=(f v.keys[i]).map fun u=>ks++[u]:=by rw [List.take_succ_eq_append_getElem fa,iM,tk]; rfl
   have nb:f v.keys[i]=none->rC f v.keys=none:=uM f _ _ (y8 fa);have bg:=GY pb p i (by omega);obtain ⟨qb,q,ff⟩:=hu false (p++[(i:Int)]) (by simp; omega);have hw:=WB (i:=i);generalize v.keys[i]=u at *
   rw [qA u] at g1;simp only [gA,GA,qA u,yH,yf,ym] at ff bg;have hkl2:=EN f _ tk;have hkl3:ks.length<=1000000:=by rw [hkl2]; simp; omega
   have room:ZA 120 (ks.length + 1)=true:=by rw [xA]; omega
   have LF:ZA 120 1=true:=by rw [xA]; omega
   have ac:=mK ks;cases ho:f u with
   | none =>
    rw [ho] at ff;simp only [aB] at ff;simp [uF,-J,-y4,-y3,y0,e5,e6,m6,e8,m8,e9,m9,e12,mb,wb,sb,jc,eh,ld,mi,xj,ga,g1,bg,ff];exact jb _ _ (.inr ⟨rfl,nb ho,mc,qb,q,by simp [e12],by simp [aB]⟩)
   | some z =>
    rw [ho] at ff dd;simp only [aB] at ff;rcases rm with ⟨rfl,rfl,rfl⟩ | ⟨rfl,ma,rfl⟩
    ·simp [uF,-J,-y4,-y3,y0,e5,e6,m6,e8,m8,e9,m9,e12,mb,wb,sb,jc,eh,ld,mi,xj,ga,g1,bg,ff,hw,room,LF,ac,BA,An.strip];refine ih fa _ ⟨⟨by simp [e5],⟨n6,by simp [e6],by simp [m6,An.strip]⟩,⟨n8,by simp [e8],by simp [m8,OA,An.strip]⟩,⟨n9,by simp [e9],by simp [m9,An.strip]⟩,⟨mc,_,by simp [e12],(by simp [mb]; rfl),rfl⟩,⟨te,by simp [wb],by simp [sb,sA,An.strip]⟩,⟨uj,by simp [jc],by simp [eh,sA,An.strip]⟩⟩,by simp,wj,false,[z],.own 162 41,by simp [ld],by simp [JI,qA z,An.strip],.inr ⟨rfl,by simp,rfl⟩,by simpa using dd⟩
    ·simp [uF,-J,-y4,-y3,y0,e5,e6,m6,e8,m8,e9,m9,e12,mb,wb,sb,jc,eh,ld,mi,xj,ga,g1,bg,ff,hw,room,LF,ac,BA,An.strip];refine ih fa _ ⟨⟨by simp [e5],⟨n6,by simp [e6],by simp [m6,An.strip]⟩,⟨n8,by simp [e8],by simp [m8,OA,An.strip]⟩,⟨n9,by simp [e9],by simp [m9,An.strip]⟩,⟨mc,_,by simp [e12],(by simp [mb]; rfl),rfl⟩,⟨te,by simp [wb],by simp [sb,sA,An.strip]⟩,⟨uj,by simp [jc],by simp [eh,sA,An.strip]⟩⟩,by simp,wj,false,ks++[z],.own 162 41,by simp [ld],by simp [JI,qA z,An.strip],.inr ⟨rfl,by simp,rfl⟩,by simpa using dd⟩
  ·have ga:¬ (i:Int)<v.keys.length:=by omega
   rw [yB (by omega)] at tk;simp [uF,-J,-y4,-y3,y0,e8,m8,xj,ga];exact jb _ _ (.inl ⟨rfl,⟨by simp [e5],⟨n6,by simp [e6],by simp [m6,An.strip]⟩,⟨n8,by simp [e8],by simp [m8,OA,An.strip]⟩,⟨n9,by simp [e9],by simp [m9,An.strip]⟩,⟨mc,_,by simp [e12],(by simp [mb]; rfl),rfl⟩,⟨te,by simp [wb],by simp [sb,sA,An.strip]⟩,⟨uj,by simp [jc],by simp [eh,sA,An.strip]⟩⟩,wj,kn,ks,ka,by simp [ld],by simp [mi,JI],rm,tk⟩)
 ·exact ⟨h,xj,nk.choose,true,[],.ex,nk.choose_spec.1,nk.choose_spec.2,.inl ⟨rfl,rfl,rfl⟩,rfl⟩
 ·rcases h with ⟨rfl,h1,n,kn,ks,ka,h2,h3,h4,h5⟩ | ⟨rfl,h1,h2⟩
  ·exact hk _ ks kn ka h5 h1 h4 ⟨n,h2,h3⟩
  ·exact hr _ h1 h2
theorem rM {rv:RV} (kn0:Bool) (ks0:List Vl) (w r:FI) (x y:pA) (v:Vl) (pb:Bool) (p:List Int) (B:Nat) (pd:p.length + (B + 1)<=1000000) (lg:v.items.length<=1000000) (f:Vl->Option Vl) (H:∀ u∈v.items,RdP w r B x.elem u y.elem (f u))
  (s:aA) (h:RdI w r x y v pb p s) (uh:(s.env 20).v=.int .i64 0) (nk:∃ n ka,(s.env 17).v=.ptr 17 n 0/\s.mem 17 n=some (JI v kn0 ks0 ka true [] .ex)) (k:Ex->aA->Option RV)
  (hk:∀ s' ks kn ka,rC f v.items=some ks->RdI w r x y v pb p s'->KeyA 195 kn ks ka->(∃ n k0,(s'.env 17).v=.ptr 17 n 0/\s'.mem 17 n=some (JI v kn0 ks0 k0 kn ks ka))->k (.exit 2) s'=some rv)
  (hr:∀ s',rC f v.items=none->fZ s'->k .ret s'=some rv):WI jA tA tF s k=some rv:=by
 refine RA v.items.length (fun i s=>RdI w r x y v pb p s/\(s.env 20).v=.int .i64 i/\∃ n k0 kn ks ka,(s.env 17).v=.ptr 17 n 0/\s.mem 17 n=some (JI v kn0 ks0 k0 kn ks ka)/\KeyA 195 kn ks ka/\rC f (v.items.take i)=some ks)
  (fun e s=>(e=.exit 2/\RdI w r x y v pb p s/\∃ n k0 kn ks ka,(s.env 17).v=.ptr 17 n 0/\s.mem 17 n=some (JI v kn0 ks0 k0 kn ks ka)/\KeyA 195 kn ks ka/\rC f v.items=some ks)\/(e=.ret/\rC f v.items=none/\fZ s)) (fun i hi s k h ih jb=>?_) _ _ ?_ (fun e s h=>?_)
 ·obtain ⟨hI,uh,wj,k0,kn,ks,ka,ld,mi,rm,tk⟩:=h;obtain ⟨e5,⟨n6,e6,m6⟩,⟨n8,e8,m8⟩,⟨n9,e9,m9⟩,⟨mc,R,e12,mb,hR⟩,⟨te,wb,sb⟩,⟨uj,jc,eh⟩⟩:=hI;refine iA ?_;simp only [OA] at m8;simp only [sA] at sb eh;simp only [JI] at mi;obtain ⟨r0,r1,r2,r3,r4,r5,r6,r7,r8,r9,rfl⟩:∃ r0 r1 r2 r3 r4 r5 r6 r7 r8 r9,R=[r0,r1,r2,r3,r4,r5,r6,r7,r8,r9]:=by
   match R,hR with
   | [r0,r1,r2,r3,r4,r5,r6,r7,r8,r9],_=>exact ⟨_,_,_,_,_,_,_,_,_,_,rfl⟩
  by_cases fa:i<v.items.length
  ·have ga:(i:Int)<v.items.length:=by omega
   have hu:=H _ (y8 fa);have g1:(v.items.map fA)[i]?=some (fA v.items[i]):=by simp [fa]
   have dd:rC f (v.items.take (i + 1))=(f v.items[i]).map fun u=>ks++[u]:=by rw [List.take_succ_eq_append_getElem fa,iM,tk]; rfl
   have nb:f v.items[i]=none->rC f v.items=none:=uM f _ _ (y8 fa);have bg:=GY pb p i (by omega);obtain ⟨qb,q,ff⟩:=hu false (p++[(i:Int)]) (by simp; omega);have hw:=WB (i:=i);generalize v.items[i]=u at *
   rw [qA u] at g1;simp only [gA,GA,qA u,yH,yf,ym] at ff bg;have hkl2:=EN f _ tk;have hkl3:ks.length<=1000000:=by rw [hkl2]; simp; omega
   have room:ZA 120 (ks.length + 1)=true:=by rw [xA]; omega
   have LF:ZA 120 1=true:=by rw [xA]; omega
   have ac:=mK ks;cases ho:f u with
   | none =>
    rw [ho] at ff;simp only [aB] at ff;simp [tF,-J,-y4,-y3,y0,e5,e6,m6,e8,m8,e9,m9,e12,mb,wb,sb,jc,eh,ld,mi,uh,ga,g1,bg,ff];exact jb _ _ (.inr ⟨rfl,nb ho,mc,qb,q,by simp [e12],by simp [aB]⟩)
   | some z =>
    rw [ho] at ff dd;simp only [aB] at ff;rcases rm with ⟨rfl,rfl,rfl⟩ | ⟨rfl,ma,rfl⟩
    ·simp [tF,-J,-y4,-y3,y0,e5,e6,m6,e8,m8,e9,m9,e12,mb,wb,sb,jc,eh,ld,mi,uh,ga,g1,bg,ff,hw,room,LF,ac,BA,An.strip];refine ih fa _ ⟨⟨by simp [e5],⟨n6,by simp [e6],by simp [m6,An.strip]⟩,⟨n8,by simp [e8],by simp [m8,OA,An.strip]⟩,⟨n9,by simp [e9],by simp [m9,An.strip]⟩,⟨mc,_,by simp [e12],(by simp [mb]; rfl),rfl⟩,⟨te,by simp [wb],by simp [sb,sA,An.strip]⟩,⟨uj,by simp [jc],by simp [eh,sA,An.strip]⟩⟩,by simp,wj,_,false,[z],.own 195 41,by simp [ld],(by simp [JI,qA z,An.strip]; rfl),.inr ⟨rfl,by simp,rfl⟩,by simpa using dd⟩
    ·simp [tF,-J,-y4,-y3,y0,e5,e6,m6,e8,m8,e9,m9,e12,mb,wb,sb,jc,eh,ld,mi,uh,ga,g1,bg,ff,hw,room,LF,ac,BA,An.strip];refine ih fa _ ⟨⟨by simp [e5],⟨n6,by simp [e6],by simp [m6,An.strip]⟩,⟨n8,by simp [e8],by simp [m8,OA,An.strip]⟩,⟨n9,by simp [e9],by simp [m9,An.strip]⟩,⟨mc,_,by simp [e12],(by simp [mb]; rfl),rfl⟩,⟨te,by simp [wb],by simp [sb,sA,An.strip]⟩,⟨uj,by simp [jc],by simp [eh,sA,An.strip]⟩⟩,by simp,wj,_,false,ks++[z],.own 195 41,by simp [ld],(by simp [JI,qA z,An.strip]; rfl),.inr ⟨rfl,by simp,rfl⟩,by simpa using dd⟩
  ·have ga:¬ (i:Int)<v.items.length:=by omega
   rw [yB (by omega)] at tk;simp [tF,-J,-y4,-y3,y0,e8,m8,uh,ga];exact jb _ _ (.inl ⟨rfl,⟨by simp [e5],⟨n6,by simp [e6],by simp [m6,An.strip]⟩,⟨n8,by simp [e8],by simp [m8,OA,An.strip]⟩,⟨n9,by simp [e9],by simp [m9,An.strip]⟩,⟨mc,_,by simp [e12],(by simp [mb]; rfl),rfl⟩,⟨te,by simp [wb],by simp [sb,sA,An.strip]⟩,⟨uj,by simp [jc],by simp [eh,sA,An.strip]⟩⟩,wj,k0,kn,ks,ka,by simp [ld],by simp [mi,JI],rm,tk⟩)
 ·obtain ⟨n,ka,h1,h2⟩:=nk;exact ⟨h,uh,n,ka,true,[],.ex,h1,h2,.inl ⟨rfl,rfl,rfl⟩,rfl⟩
 ·rcases h with ⟨rfl,h1,n,k0,kn,ks,ka,h2,h3,h4,h5⟩ | ⟨rfl,h1,h2⟩
  ·exact hk _ ks kn ka h5 h1 h4 ⟨n,k0,h2,h3⟩
  ·exact hr _ h1 h2
structure RcI (w r:FI) (x y:pA) (v:Vl) (pb:Bool) (p:List Int) (s:aA):Prop where
 e5:(s.env 5).v=.sl pb (p.map CD)
 b6:∃ n,(s.env 6).v=.ptr 6 n 0/\s.mem 6 n=some [⟨.sl w.nl (w.types.map eA),.no⟩]
 b7:∃ n,(s.env 7).v=.ptr 7 n 0/\s.mem 7 n=some (sA x)
 b8:∃ n,(s.env 8).v=.ptr 8 n 0/\s.mem 8 n=some (OA v)
 b9:∃ n,(s.env 9).v=.ptr 9 n 0/\s.mem 9 n=some [⟨.sl r.nl (r.types.map eA),.no⟩]
 b10:∃ n,(s.env 10).v=.ptr 10 n 0/\s.mem 10 n=some (sA y)
 b12:∃ n R,(s.env 12).v=.ptr 12 n 0/\s.mem 12 n=some R/\R.length=10
def KeyB (xn:Bool) (xs:List Vl) (xa:An):Prop:=(xn=true/\xa=.no/\xs=[])\/(xn=false/\xs≠[]/\(xa=.own 66 41\/xa=.own 119 41))
theorem f8 {rv:RV} (w r:FI) (x y:pA) (v:Vl) (pb:Bool) (p:List Int) (B:Nat) (pd:p.length + (B + 1)<=1000000) (jj:y.mems.length<=1000) (lw:x.mems.length<=1000) (js:v.items.length=x.mems.length) (f:Int->Vl->Int->Option Vl)
  (H:∀ (j:Nat) (m:zB) (u:Vl) (n:zB),x.mems[j]?=some m->v.items[j]?=some u->n∈y.mems->RdP w r B m.ty u n.ty (f m.ty u n.ty)) (jy:∀ m∈x.mems,m.dflt.ok) (hdy:∀ m∈y.mems,m.dflt.ok)
  (s:aA) (h:RcI w r x y v pb p s) (jc:(s.env 14).v=.int .i64 0) (nq:∃ n,(s.env 13).v=.ptr 13 n 0/\s.mem 13 n=some (bI v.kind 0 true [] .no)) (k:Ex->aA->Option RV)
  (hk:∀ s' xs xn xa,rC (UH f x v) y.mems=some xs->RcI w r x y v pb p s'->KeyB xn xs xa->(∃ n,(s'.env 13).v=.ptr 13 n 0/\s'.mem 13 n=some (bI v.kind 0 xn xs xa))->k (.exit 0) s'=some rv)
  (hr:∀ s',rC (UH f x v) y.mems=none->fZ s'->k .ret s'=some rv):WI jA tA XA s k=some rv:=by
 refine RA y.mems.length (fun i s=>RcI w r x y v pb p s/\(s.env 14).v=.int .i64 i/\∃ n xn xs xa,(s.env 13).v=.ptr 13 n 0/\s.mem 13 n=some (bI v.kind 0 xn xs xa)/\KeyB xn xs xa/\rC (UH f x v) (y.mems.take i)=some xs)
  (fun e s=>(e=.exit 0/\RcI w r x y v pb p s/\∃ n xn xs xa,(s.env 13).v=.ptr 13 n 0/\s.mem 13 n=some (bI v.kind 0 xn xs xa)/\KeyB xn xs xa/\rC (UH f x v) y.mems=some xs)\/(e=.ret/\rC (UH f x v) y.mems=none/\fZ s)) (fun i hi s k h ih jb=>?_) _ _ ?_ (fun e s h=>?_)
 ·obtain ⟨hI,jc,te,xn,xs,xa,wb,sb,rm,tk⟩:=h;obtain ⟨e5,⟨n6,e6,m6⟩,⟨n7,e7,m7⟩,⟨n8,e8,m8⟩,⟨n9,e9,m9⟩,⟨ck,e10,m10⟩,⟨mc,R,e12,mb,hR⟩⟩:=hI;refine iA ?_;simp only [OA] at m8;simp only [sA] at m7 m10;simp only [bI] at sb;obtain ⟨r0,r1,r2,r3,r4,r5,r6,r7,r8,r9,rfl⟩:∃ r0 r1 r2 r3 r4 r5 r6 r7 r8 r9,R=[r0,r1,r2,r3,r4,r5,r6,r7,r8,r9]:=by
   match R,hR with
   | [r0,r1,r2,r3,r4,r5,r6,r7,r8,r9],_=>exact ⟨_,_,_,_,_,_,_,_,_,_,rfl⟩
  by_cases fa:i<y.mems.length
  ·have ga:(i:Int)<y.mems.length:=by omega
   have ab:=y8 fa;have gn:(y.mems.map nA)[i]?=some (nA y.mems[i]):=by simp [fa]
   have dd:rC (UH f x v) (y.mems.take (i + 1))=(UH f x v y.mems[i]).map fun u=>xs++[u]:=by rw [List.take_succ_eq_append_getElem fa,iM,tk]; rfl
   have nb:UH f x v y.mems[i]=none->rC (UH f x v) y.mems=none:=uM _ _ _ ab;generalize y.mems[i]=n at *
   have bg:=GY pb p n.id (by omega);have ii:=xT false (p++[n.id]) (by simp; omega);have jf:=kO x n.id (by omega);have hw:=WB (i:=i);simp only [nA] at gn;simp only [gA,BO,eA,yH,yf,ym] at bg jf;simp only [gA,aB,yH,yf,ym] at ii;have hxs2:=EN _ _ tk;have hxs3:xs.length<=1000:=by rw [hxs2]; simp; omega
   have room:ZA 120 (xs.length + 1)=true:=by rw [xA]; omega
   have LF:ZA 120 1=true:=by rw [xA]; omega
   have ac:=mK xs;by_cases c0:QA x.mems n.id<0
   ·have ud:¬ 0<=QA x.mems n.id:=by omega
    cases hh:n.has with
    | false =>
     simp [XA,-J,-y4,-y3,y0,e5,e6,m6,e7,m7,e8,m8,e9,m9,e10,m10,e12,mb,wb,sb,jc,ga,gn,bg,jf,ud,hh,ii];exact jb _ _ (.inr ⟨rfl,nb (by unfold UH; rw [if_pos c0]; simp [hh]),mc,false,p++[n.id],by simp [e12],by simp [aB]⟩)
    | true =>
     have hz:UH f x v n=some (n.dflt):=by unfold UH; rw [if_pos c0]; simp [hh]
     rw [hz] at dd;rcases rm with ⟨rfl,rfl,rfl⟩ | ⟨rfl,ma,rfl | rfl⟩
     ·simp [XA,-J,-y4,-y3,y0,e5,e6,m6,e7,m7,e8,m8,e9,m9,e10,m10,e12,mb,wb,sb,jc,ga,gn,bg,jf,ud,hh,hw,room,LF,ac,BA,An.strip];refine ih fa _ ⟨⟨by simp [e5],⟨n6,by simp [e6],by simp [m6,An.strip]⟩,⟨n7,by simp [e7],by simp [m7,sA,An.strip]⟩,⟨n8,by simp [e8],by simp [m8,OA,An.strip]⟩,⟨n9,by simp [e9],by simp [m9,An.strip]⟩,⟨ck,by simp [e10],by simp [m10,sA,An.strip]⟩,⟨mc,_,by simp [e12],(by simp [mb]; rfl),rfl⟩⟩,by simp,te,false,[n.dflt],.own 66 41,by simp [wb],by simp [bI,qA n.dflt,An.strip],.inr ⟨rfl,by simp,.inl rfl⟩,by simpa using dd⟩
     ·simp [XA,-J,-y4,-y3,y0,e5,e6,m6,e7,m7,e8,m8,e9,m9,e10,m10,e12,mb,wb,sb,jc,ga,gn,bg,jf,ud,hh,hw,room,LF,ac,BA,An.strip];refine ih fa _ ⟨⟨by simp [e5],⟨n6,by simp [e6],by simp [m6,An.strip]⟩,⟨n7,by simp [e7],by simp [m7,sA,An.strip]⟩,⟨n8,by simp [e8],by simp [m8,OA,An.strip]⟩,⟨n9,by simp [e9],by simp [m9,An.strip]⟩,⟨ck,by simp [e10],by simp [m10,sA,An.strip]⟩,⟨mc,_,by simp [e12],(by simp [mb]; rfl),rfl⟩⟩,by simp,te,false,xs++[n.dflt],.own 66 41,by simp [wb],by simp [bI,qA n.dflt,An.strip],.inr ⟨rfl,by simp,.inl rfl⟩,by simpa using dd⟩
     ·simp [XA,-J,-y4,-y3,y0,e5,e6,m6,e7,m7,e8,m8,e9,m9,e10,m10,e12,mb,wb,sb,jc,ga,gn,bg,jf,ud,hh,hw,room,LF,ac,BA,An.strip];refine ih fa _ ⟨⟨by simp [e5],⟨n6,by simp [e6],by simp [m6,An.strip]⟩,⟨n7,by simp [e7],by simp [m7,sA,An.strip]⟩,⟨n8,by simp [e8],by simp [m8,OA,An.strip]⟩,⟨n9,by simp [e9],by simp [m9,An.strip]⟩,⟨ck,by simp [e10],by simp [m10,sA,An.strip]⟩,⟨mc,_,by simp [e12],(by simp [mb]; rfl),rfl⟩⟩,by simp,te,false,xs++[n.dflt],.own 66 41,by simp [wb],by simp [bI,qA n.dflt,An.strip],.inr ⟨rfl,by simp,.inl rfl⟩,by simpa using dd⟩
   ·have ud:0<=QA x.mems n.id:=by omega
    have mx:max (QA x.mems n.id) 0=QA x.mems n.id:=by omega
    obtain ⟨m,hm,_⟩:=EI (fun z:zB=>decide (z.id=n.id)) x.mems (by unfold QA at ud; omega);change x.mems[(QA x.mems n.id).toNat]?=some m at hm;have rj:=(y9.1 hm).1;have xf:v.items[(QA x.mems n.id).toNat]?=some v.items[(QA x.mems n.id).toNat]:=by simp [js,rj]
    have rk:=y8 (show (QA x.mems n.id).toNat<v.items.length by omega);generalize v.items[(QA x.mems n.id).toNat]=it at *
    have xm:=yh hm;have gm:(x.mems.map nA)[(QA x.mems n.id).toNat]?=some (nA m):=by simp [hm]
    have gi:(v.items.map fA)[(QA x.mems n.id).toNat]?=some (fA it):=by simp [xf]
    obtain ⟨qb,q,ff⟩:=H _ m it n hm xf ab false (p++[n.id]) (by simp; omega);have ri:=B4 m it (jy m xm);simp only [nA] at gm;rw [qA it] at gi;simp only [gA,GA,qA it,yH,yf,ym] at ff;simp only [gA,nA,qA it] at ri;cases ho:f m.ty it n.ty with
    | none =>
     rw [ho] at ff;simp only [aB] at ff;cases hd:M9 m it with
     | true =>
      rw [hd] at ri;simp [XA,-J,-y4,-y3,y0,e5,e6,m6,e7,m7,e8,m8,e9,m9,e10,m10,e12,mb,wb,sb,jc,ga,gn,bg,jf,ud,mx,gm,gi,ff,ri,ii];exact jb _ _ (.inr ⟨rfl,nb (by unfold UH; rw [if_neg c0,hm,xf]; simp [ho]),mc,false,p++[n.id],by simp [e12],by simp [aB]⟩)
     | false =>
      rw [hd] at ri;simp [XA,-J,-y4,-y3,y0,e5,e6,m6,e7,m7,e8,m8,e9,m9,e10,m10,e12,mb,wb,sb,jc,ga,gn,bg,jf,ud,mx,gm,gi,ff,ri];exact jb _ _ (.inr ⟨rfl,nb (by unfold UH; rw [if_neg c0,hm,xf]; simp [ho]),mc,qb,q,by simp [e12],by simp [aB]⟩)
    | some u =>
     rw [ho] at ff;simp only [aB] at ff;have hdn:=B4 n u (hdy n ab);simp only [gA,nA,qA u] at hdn;cases hd:M9 m it with
     | true =>
      rw [hd] at ri;cases hdu:M9 n u with
      | false =>
       rw [hdu] at hdn;simp [XA,-J,-y4,-y3,y0,e5,e6,m6,e7,m7,e8,m8,e9,m9,e10,m10,e12,mb,wb,sb,jc,ga,gn,bg,jf,ud,mx,gm,gi,ff,ri,hdn,ii];exact jb _ _ (.inr ⟨rfl,nb (by unfold UH; rw [if_neg c0,hm,xf]; simp [ho,hd,hdu]),mc,false,p++[n.id],by simp [e12],by simp [aB]⟩)
      | true =>
       rw [hdu] at hdn;have hz:UH f x v n=some (u):=by unfold UH; rw [if_neg c0,hm,xf]; simp [ho,hd,hdu]
       rw [hz] at dd;rcases rm with ⟨rfl,rfl,rfl⟩ | ⟨rfl,ma,rfl | rfl⟩
       ·simp [XA,-J,-y4,-y3,y0,e5,e6,m6,e7,m7,e8,m8,e9,m9,e10,m10,e12,mb,wb,sb,jc,ga,gn,bg,jf,ud,mx,gm,gi,ff,ri,hdn,hw,room,LF,ac,BA,An.strip];refine ih fa _ ⟨⟨by simp [e5],⟨n6,by simp [e6],by simp [m6,An.strip]⟩,⟨n7,by simp [e7],by simp [m7,sA,An.strip]⟩,⟨n8,by simp [e8],by simp [m8,OA,An.strip]⟩,⟨n9,by simp [e9],by simp [m9,An.strip]⟩,⟨ck,by simp [e10],by simp [m10,sA,An.strip]⟩,⟨mc,_,by simp [e12],(by simp [mb]; rfl),rfl⟩⟩,by simp,te,false,[u],.own 119 41,by simp [wb],by simp [bI,qA u,An.strip],.inr ⟨rfl,by simp,.inr rfl⟩,by simpa using dd⟩
       ·simp [XA,-J,-y4,-y3,y0,e5,e6,m6,e7,m7,e8,m8,e9,m9,e10,m10,e12,mb,wb,sb,jc,ga,gn,bg,jf,ud,mx,gm,gi,ff,ri,hdn,hw,room,LF,ac,BA,An.strip];refine ih fa _ ⟨⟨by simp [e5],⟨n6,by simp [e6],by simp [m6,An.strip]⟩,⟨n7,by simp [e7],by simp [m7,sA,An.strip]⟩,⟨n8,by simp [e8],by simp [m8,OA,An.strip]⟩,⟨n9,by simp [e9],by simp [m9,An.strip]⟩,⟨ck,by simp [e10],by simp [m10,sA,An.strip]⟩,⟨mc,_,by simp [e12],(by simp [mb]; rfl),rfl⟩⟩,by simp,te,false,xs++[u],.own 119 41,by simp [wb],by simp [bI,qA u,An.strip],.inr ⟨rfl,by simp,.inr rfl⟩,by simpa using dd⟩
       ·simp [XA,-J,-y4,-y3,y0,e5,e6,m6,e7,m7,e8,m8,e9,m9,e10,m10,e12,mb,wb,sb,jc,ga,gn,bg,jf,ud,mx,gm,gi,ff,ri,hdn,hw,room,LF,ac,BA,An.strip];refine ih fa _ ⟨⟨by simp [e5],⟨n6,by simp [e6],by simp [m6,An.strip]⟩,⟨n7,by simp [e7],by simp [m7,sA,An.strip]⟩,⟨n8,by simp [e8],by simp [m8,OA,An.strip]⟩,⟨n9,by simp [e9],by simp [m9,An.strip]⟩,⟨ck,by simp [e10],by simp [m10,sA,An.strip]⟩,⟨mc,_,by simp [e12],(by simp [mb]; rfl),rfl⟩⟩,by simp,te,false,xs++[u],.own 119 41,by simp [wb],by simp [bI,qA u,An.strip],.inr ⟨rfl,by simp,.inr rfl⟩,by simpa using dd⟩
     | false =>
      rw [hd] at ri;have hz:UH f x v n=some (u):=by unfold UH; rw [if_neg c0,hm,xf]; simp [ho,hd]
      rw [hz] at dd;rcases rm with ⟨rfl,rfl,rfl⟩ | ⟨rfl,ma,rfl | rfl⟩
      ·simp [XA,-J,-y4,-y3,y0,e5,e6,m6,e7,m7,e8,m8,e9,m9,e10,m10,e12,mb,wb,sb,jc,ga,gn,bg,jf,ud,mx,gm,gi,ff,ri,hw,room,LF,ac,BA,An.strip];refine ih fa _ ⟨⟨by simp [e5],⟨n6,by simp [e6],by simp [m6,An.strip]⟩,⟨n7,by simp [e7],by simp [m7,sA,An.strip]⟩,⟨n8,by simp [e8],by simp [m8,OA,An.strip]⟩,⟨n9,by simp [e9],by simp [m9,An.strip]⟩,⟨ck,by simp [e10],by simp [m10,sA,An.strip]⟩,⟨mc,_,by simp [e12],(by simp [mb]; rfl),rfl⟩⟩,by simp,te,false,[u],.own 119 41,by simp [wb],by simp [bI,qA u,An.strip],.inr ⟨rfl,by simp,.inr rfl⟩,by simpa using dd⟩
      ·simp [XA,-J,-y4,-y3,y0,e5,e6,m6,e7,m7,e8,m8,e9,m9,e10,m10,e12,mb,wb,sb,jc,ga,gn,bg,jf,ud,mx,gm,gi,ff,ri,hw,room,LF,ac,BA,An.strip];refine ih fa _ ⟨⟨by simp [e5],⟨n6,by simp [e6],by simp [m6,An.strip]⟩,⟨n7,by simp [e7],by simp [m7,sA,An.strip]⟩,⟨n8,by simp [e8],by simp [m8,OA,An.strip]⟩,⟨n9,by simp [e9],by simp [m9,An.strip]⟩,⟨ck,by simp [e10],by simp [m10,sA,An.strip]⟩,⟨mc,_,by simp [e12],(by simp [mb]; rfl),rfl⟩⟩,by simp,te,false,xs++[u],.own 119 41,by simp [wb],by simp [bI,qA u,An.strip],.inr ⟨rfl,by simp,.inr rfl⟩,by simpa using dd⟩
      ·simp [XA,-J,-y4,-y3,y0,e5,e6,m6,e7,m7,e8,m8,e9,m9,e10,m10,e12,mb,wb,sb,jc,ga,gn,bg,jf,ud,mx,gm,gi,ff,ri,hw,room,LF,ac,BA,An.strip];refine ih fa _ ⟨⟨by simp [e5],⟨n6,by simp [e6],by simp [m6,An.strip]⟩,⟨n7,by simp [e7],by simp [m7,sA,An.strip]⟩,⟨n8,by simp [e8],by simp [m8,OA,An.strip]⟩,⟨n9,by simp [e9],by simp [m9,An.strip]⟩,⟨ck,by simp [e10],by simp [m10,sA,An.strip]⟩,⟨mc,_,by simp [e12],(by simp [mb]; rfl),rfl⟩⟩,by simp,te,false,xs++[u],.own 119 41,by simp [wb],by simp [bI,qA u,An.strip],.inr ⟨rfl,by simp,.inr rfl⟩,by simpa using dd⟩
  ·have ga:¬ (i:Int)<y.mems.length:=by omega
   rw [yB (by omega)] at tk;simp [XA,-J,-y4,-y3,y0,e10,m10,jc,ga];exact jb _ _ (.inl ⟨rfl,⟨by simp [e5],⟨n6,by simp [e6],by simp [m6,An.strip]⟩,⟨n7,by simp [e7],by simp [m7,sA,An.strip]⟩,⟨n8,by simp [e8],by simp [m8,OA,An.strip]⟩,⟨n9,by simp [e9],by simp [m9,An.strip]⟩,⟨ck,by simp [e10],by simp [m10,sA,An.strip]⟩,⟨mc,_,by simp [e12],(by simp [mb]; rfl),rfl⟩⟩,te,xn,xs,xa,by simp [wb],by simp [sb,bI],rm,tk⟩)
 ·exact ⟨h,jc,nq.choose,true,[],.no,nq.choose_spec.1,nq.choose_spec.2,.inl ⟨rfl,rfl,rfl⟩,rfl⟩
 ·rcases h with ⟨rfl,h1,n,xn,xs,xa,h2,h3,h4,h5⟩ | ⟨rfl,h1,h2⟩
  ·exact hk _ xs xn xa h5 h1 h4 ⟨n,h2,h3⟩
  ·exact hr _ h1 h2
def nY (k:Int) (xn:Bool) (xs:List Vl) (xa:An) (rn:Bool) (rs:List u9) (ra:An):List wA:=[⟨.int .i64 k,.no⟩,⟨.bool false,.no⟩,⟨.int .i64 0,.no⟩,⟨.str ⟨#[]⟩,.no⟩,⟨.int .i64 0,.no⟩,⟨.sl true [],.no⟩,⟨.sl xn (xs.map fA),xa⟩,⟨.sl rn (rs.map UJ),ra⟩]
def KeyC (rn:Bool) (rs:List u9) (ra:An):Prop:=(rn=true/\ra=.no/\rs=[])\/(rn=false/\rs≠[]/\ra=.own 171 137)
theorem recrest_lp {rv:RV} (kk:Int) (xn:Bool) (xs:List Vl) (w r:FI) (x y:pA) (v:Vl) (pb:Bool) (p:List Int) (pd:p.length + 1<=1000000) (jj:y.mems.length<=1000) (lw:x.mems.length<=1000) (js:v.items.length=x.mems.length) (pay:Int->Vl->ByteArray)
  (H:∀ (j:Nat) (m:zB) (u:Vl),x.mems[j]?=some m->v.items[j]?=some u->ZG w.nl w.types m.ty u (pay m.ty u)) (jy:∀ m∈x.mems,m.dflt.ok)
  (s:aA) (h:RcI w r x y v pb p s) (uh:(s.env 20).v=.int .i64 0) (nq:∃ n xa,(s.env 13).v=.ptr 13 n 0/\s.mem 13 n=some (nY kk xn xs xa true [] .no)) (k:Ex->aA->Option RV)
  (hk:∀ s' qs rn ra,rC (OI pay y) (x.mems.zip v.items)=some qs->RcI w r x y v pb p s'->KeyC rn (qs.filterMap id) ra->(∃ n xa,(s'.env 13).v=.ptr 13 n 0/\s'.mem 13 n=some (nY kk xn xs xa rn (qs.filterMap id) ra))->k (.exit 2) s'=some rv)
  (hr:∀ s',rC (OI pay y) (x.mems.zip v.items)=none->fZ s'->k .ret s'=some rv):WI jA tA xD s k=some rv:=by
 have ki:(x.mems.zip v.items).length=x.mems.length:=by simp [js]
 refine RA x.mems.length (fun i s=>RcI w r x y v pb p s/\(s.env 20).v=.int .i64 i/\∃ n xa qs rn ra,(s.env 13).v=.ptr 13 n 0/\s.mem 13 n=some (nY kk xn xs xa rn (qs.filterMap id) ra)/\KeyC rn (qs.filterMap id) ra/\rC (OI pay y) ((x.mems.zip v.items).take i)=some qs)
  (fun e s=>(e=.exit 2/\RcI w r x y v pb p s/\∃ n xa qs rn ra,(s.env 13).v=.ptr 13 n 0/\s.mem 13 n=some (nY kk xn xs xa rn (qs.filterMap id) ra)/\KeyC rn (qs.filterMap id) ra/\rC (OI pay y) (x.mems.zip v.items)=some qs)\/(e=.ret/\rC (OI pay y) (x.mems.zip v.items)=none/\fZ s)) (fun i hi s k h ih jb=>?_) _ _ ?_ (fun e s h=>?_)
 ·obtain ⟨hI,uh,te,xa,qs,rn,ra,wb,sb,rm,tk⟩:=h;obtain ⟨e5,⟨n6,e6,m6⟩,⟨n7,e7,m7⟩,⟨n8,e8,m8⟩,⟨n9,e9,m9⟩,⟨ck,e10,m10⟩,⟨mc,R,e12,mb,hR⟩⟩:=hI;refine iA ?_;simp only [OA] at m8;simp only [sA] at m7 m10;simp only [nY] at sb;obtain ⟨r0,r1,r2,r3,r4,r5,r6,r7,r8,r9,rfl⟩:∃ r0 r1 r2 r3 r4 r5 r6 r7 r8 r9,R=[r0,r1,r2,r3,r4,r5,r6,r7,r8,r9]:=by
   match R,hR with
   | [r0,r1,r2,r3,r4,r5,r6,r7,r8,r9],_=>exact ⟨_,_,_,_,_,_,_,_,_,_,rfl⟩
  by_cases fa:i<x.mems.length
  ·have ga:(i:Int)<x.mems.length:=by omega
   have hlv:i<v.items.length:=by omega
   have xm:=y8 fa;have hm:x.mems[i]?=some x.mems[i]:=by simp [fa]
   have xf:v.items[i]?=some v.items[i]:=by simp [hlv]
   have gm:(x.mems.map nA)[i]?=some (nA x.mems[i]):=by simp [fa]
   have gi:(v.items.map fA)[i]?=some (fA v.items[i]):=by simp [hlv]
   have hzi:i<(x.mems.zip v.items).length:=by omega
   have hz:(x.mems.zip v.items)[i]=(x.mems[i],v.items[i]):=by simp
   have dd:rC (OI pay y) ((x.mems.zip v.items).take (i + 1))=(OI pay y (x.mems[i],v.items[i])).map fun u=>qs++[u]:=by rw [List.take_succ_eq_append_getElem hzi,iM,tk,hz]; rfl
   have nb:OI pay y (x.mems[i],v.items[i])=none->rC (OI pay y) (x.mems.zip v.items)=none:=uM _ _ _ (by rw [<- hz]; exact y8 hzi);generalize x.mems[i]=m at *
   generalize v.items[i]=it at *
   have bg:=GY pb p m.id (by omega);have ii:=xT false (p++[m.id]) (by simp; omega);have zq:=kO y m.id (by omega);have ri:=B4 m it (jy m xm);have hp:=H i m it hm xf;have hw:=WB (i:=i);simp only [nA] at gm;rw [qA it] at gi;simp only [gA,BO,eA,yH,yf,ym] at bg zq;simp only [gA,aB,yH,yf,ym] at ii;simp only [gA,nA,qA it] at ri;simp only [ZG,gA,QD,qA it] at hp;have hql:(qs.filterMap id).length<=1000:=by
    have h1:=List.length_filterMap_le id qs;have h2:=EN _ _ tk;simp at h2;omega
   generalize jw:qs.filterMap id=rs at *
   have room:ZA 24 (rs.length + 1)=true:=by rw [xA]; omega
   have LF:ZA 24 1=true:=by rw [xA]; omega
   have ac:=els_raw rs;by_cases c0:0<=QA y.mems m.id
   ·have dj:OI pay y (m,it)=some none:=by unfold OI; rw [if_pos c0]
    rw [dj] at dd;simp [xD,-J,-y4,-y3,y0,e5,e6,m6,e7,m7,e8,m8,e9,m9,e10,m10,e12,mb,wb,sb,uh,ga,gm,gi,zq,c0,hw];refine ih fa _ ⟨⟨by simp [e5],⟨n6,by simp [e6],by simp [m6,An.strip]⟩,⟨n7,by simp [e7],by simp [m7,sA,An.strip]⟩,⟨n8,by simp [e8],by simp [m8,OA,An.strip]⟩,⟨n9,by simp [e9],by simp [m9,An.strip]⟩,⟨ck,by simp [e10],by simp [m10,sA,An.strip]⟩,⟨mc,_,by simp [e12],(by simp [mb]; rfl),rfl⟩⟩,by simp,te,xa,qs++[none],rn,ra,by simp [wb],by simp [sb,nY,jw],by simpa [jw] using rm,by simpa using dd⟩
   ·cases xo:m.crit with
    | true =>
     have dj:OI pay y (m,it)=none:=by unfold OI; rw [if_neg c0]; simp [xo]
     simp [xD,-J,-y4,-y3,y0,e5,e6,m6,e7,m7,e8,m8,e9,m9,e10,m10,e12,mb,wb,sb,uh,ga,gm,gi,zq,c0,xo,bg,ii];exact jb _ _ (.inr ⟨rfl,nb dj,mc,false,p++[m.id],by simp [e12],by simp [aB]⟩)
    | false =>
     cases hd:M9 m it with
     | true =>
      have dj:OI pay y (m,it)=some none:=by unfold OI; rw [if_neg c0]; simp [xo,hd]
      rw [dj] at dd;rw [hd] at ri;rw [xo] at ri;simp [xD,-J,-y4,-y3,y0,e5,e6,m6,e7,m7,e8,m8,e9,m9,e10,m10,e12,mb,wb,sb,uh,ga,gm,gi,zq,c0,xo,ri,hw];refine ih fa _ ⟨⟨by simp [e5],⟨n6,by simp [e6],by simp [m6,An.strip]⟩,⟨n7,by simp [e7],by simp [m7,sA,An.strip]⟩,⟨n8,by simp [e8],by simp [m8,OA,An.strip]⟩,⟨n9,by simp [e9],by simp [m9,An.strip]⟩,⟨ck,by simp [e10],by simp [m10,sA,An.strip]⟩,⟨mc,_,by simp [e12],(by simp [mb]; rfl),rfl⟩⟩,by simp,te,xa,qs++[none],rn,ra,by simp [wb],by simp [sb,nY,jw],by simpa [jw] using rm,by simpa using dd⟩
     | false =>
      have dj:OI pay y (m,it)=some (some ⟨m.id,pay m.ty it⟩):=by unfold OI; rw [if_neg c0]; simp [xo,hd]
      rw [dj] at dd;rw [hd] at ri;rw [xo] at ri;rcases rm with ⟨rfl,rfl,rfl⟩ | ⟨rfl,ma,rfl⟩
      all_goals
       simp [xD,-J,-y4,-y3,y0,e5,e6,m6,e7,m7,e8,m8,e9,m9,e10,m10,e12,mb,wb,sb,uh,ga,gm,gi,zq,c0,xo,ri,hp,hw,room,LF,ac,BA,An.strip];refine ih fa _ ⟨⟨by simp [e5],⟨n6,by simp [e6],by simp [m6,An.strip]⟩,⟨n7,by simp [e7],by simp [m7,sA,An.strip]⟩,⟨n8,by simp [e8],by simp [m8,OA,An.strip]⟩,⟨n9,by simp [e9],by simp [m9,An.strip]⟩,⟨ck,by simp [e10],by simp [m10,sA,An.strip]⟩,⟨mc,_,by simp [e12],(by simp [mb]; rfl),rfl⟩⟩,by simp,te,_,qs++[some ⟨m.id,pay m.ty it⟩],false,.own 171 137,by simp [wb],(by simp [nY,UJ,An.strip,jw]; rfl),.inr ⟨rfl,by simp,rfl⟩,by simpa using dd⟩
  ·have ga:¬ (i:Int)<x.mems.length:=by omega
   rw [yB (by omega)] at tk;simp [xD,-J,-y4,-y3,y0,e7,m7,uh,ga];exact jb _ _ (.inl ⟨rfl,⟨by simp [e5],⟨n6,by simp [e6],by simp [m6,An.strip]⟩,⟨n7,by simp [e7],by simp [m7,sA,An.strip]⟩,⟨n8,by simp [e8],by simp [m8,OA,An.strip]⟩,⟨n9,by simp [e9],by simp [m9,An.strip]⟩,⟨ck,by simp [e10],by simp [m10,sA,An.strip]⟩,⟨mc,_,by simp [e12],(by simp [mb]; rfl),rfl⟩⟩,te,xa,qs,rn,ra,by simp [wb],by simp [sb,nY],rm,tk⟩)
 ·obtain ⟨n,xa,h1,h2⟩:=nq;exact ⟨h,uh,n,xa,[],true,.no,h1,h2,.inl ⟨rfl,rfl,rfl⟩,rfl⟩
 ·rcases h with ⟨rfl,h1,n,xa,qs,rn,ra,h2,h3,h4,h5⟩ | ⟨rfl,h1,h2⟩
  ·exact hk _ qs rn ra h5 h1 h4 ⟨n,xa,h2,h3⟩
  ·exact hr _ h1 h2
def ResI (o:Option Vl) (e:Ex) (s:aA):Prop:=e=.ret/\∃ n qb q,(s.env 12).v=.ptr 12 n 0/\s.mem 12 n=some ((aB o qb q).map fun v=>⟨v,.no⟩)
theorem rrec_run (w r:FI) (x y:pA) (v:Vl) (pb:Bool) (p:List Int) (B:Nat) (pd:p.length + (B + 1)<=1000000) (jj:y.mems.length<=1000) (lw:x.mems.length<=1000) (js:v.items.length=x.mems.length) (f:Int->Vl->Int->Option Vl) (pay:Int->Vl->ByteArray)
  (H:∀ (j:Nat) (m:zB) (u:Vl) (n:zB),x.mems[j]?=some m->v.items[j]?=some u->n∈y.mems->RdP w r B m.ty u n.ty (f m.ty u n.ty)) (H2:∀ (j:Nat) (m:zB) (u:Vl),x.mems[j]?=some m->v.items[j]?=some u->ZG w.nl w.types m.ty u (pay m.ty u)) (jy:∀ m∈x.mems,m.dflt.ok) (hdy:∀ m∈y.mems,m.dflt.ok) (k:Ex->aA->Option RV) (rv:RV) (hk:∀ e s',ResI (aL pay f x v y) e s'->k e s'=some rv) :
  GE.code.run (dF jA tA) (RJ jA tA) (aA.init [.agg (GA w),.agg (eA x),.agg (fA v),.agg (GA r),.agg (eA y),.sl pb (p.map CD)] none) k=some rv:=by
 have bad:∀ s':aA,aL pay f x v y=none->fZ s'->k .ret s'=some rv:=fun s' h1 h2=>hk _ _ ⟨rfl,by rw [h1]; exact h2⟩
 simp [GE,-J,-y4,-y3,y0,GA,eA,qA v];refine f8 w r x y v pb p B pd jj lw js f H jy hdy _ ?_ ?_ ?_ _ (fun s' xs xn xa ed hI hB nq=>?_) fun s' nb hb=>?_
 ·exact ⟨by simp,⟨1,by simp,by simp⟩,⟨1,by simp,by simp [sA]⟩,⟨1,by simp,by simp [OA]⟩,⟨1,by simp,by simp⟩,⟨1,by simp,by simp [sA]⟩,⟨1,_,by simp,(by simp; rfl),rfl⟩⟩
 ·simp
 ·exact ⟨2,by simp,by simp [bI]⟩
 ·simp [-J,-y4,-y3,y0];obtain ⟨te,wb,sb⟩:=nq;refine recrest_lp v.kind xn xs w r x y v pb p (by omega) jj lw js pay H2 jy _ ?_ ?_ ?_ _ (fun s2 qs rn ra hqs wo hC h13'=>?_) fun s2 nb hb=>?_
  ·obtain ⟨e5,⟨n6,e6,m6⟩,⟨n7,e7,m7⟩,⟨n8,e8,m8⟩,⟨n9,e9,m9⟩,⟨ck,e10,m10⟩,⟨mc,R,e12,mb,hR⟩⟩:=hI;exact ⟨by simp [e5],⟨n6,by simp [e6],by simp [m6]⟩,⟨n7,by simp [e7],by simp [m7]⟩,⟨n8,by simp [e8],by simp [m8]⟩,⟨n9,by simp [e9],by simp [m9]⟩,⟨ck,by simp [e10],by simp [m10]⟩,⟨mc,R,by simp [e12],by simp [mb],hR⟩⟩
  ·simp
  ·exact ⟨te,xa,by simp [wb],by simp [sb,bI,nY]⟩
  ·obtain ⟨n13',xa',e13',m13'⟩:=h13';obtain ⟨mc,R,e12,mb,hR⟩:=wo.b12;obtain ⟨r0,r1,r2,r3,r4,r5,r6,r7,r8,r9,rfl⟩:∃ r0 r1 r2 r3 r4 r5 r6 r7 r8 r9,R=[r0,r1,r2,r3,r4,r5,r6,r7,r8,r9]:=by
    match R,hR with
    | [r0,r1,r2,r3,r4,r5,r6,r7,r8,r9],_=>exact ⟨_,_,_,_,_,_,_,_,_,_,rfl⟩
   simp only [nY] at m13';have dg:=WK v.kind false 0 ⟨#[]⟩ 0 true [] xn xs rn (qs.filterMap id);have td:aL pay f x v y=some (.mk v.kind false 0 ⟨#[]⟩ 0 true [] xn xs rn (qs.filterMap id)):=by
    unfold aL restR;rw [ed,hqs];have hx:decide (xs=[])=xn:=by rcases hB with ⟨rfl,_,rfl⟩ | ⟨rfl,ma,_⟩ <;> simp [*]
    have hr:decide (qs.filterMap id=[])=rn:=by
     rcases hC with ⟨rfl,_,h⟩ | ⟨rfl,ma,_⟩
     ·simpa using h
     ·simpa using ma
    simp only [J,yr,hx,hr]
   generalize qs.filterMap id=rs at *
   simp only [gA,ym] at dg;simp [-J,-y4,-y3,y0,e13',m13',e12,mb,dg];refine hk _ _ ⟨rfl,mc,true,[],by simp [e12],?_⟩;rw [td];simp [aB,Vl.kind,Vl.b,Vl.i,Vl.s,Vl.id,Vl.kn,Vl.keys,Vl.xn,Vl.items,Vl.rn,Vl.rest]
  ·simp [-J,-y4,-y3,y0];refine bad _ ?_ hb;unfold aL restR;rw [ed,nb];rfl
 ·simp [-J,-y4,-y3,y0];refine bad _ ?_ hb;unfold aL;rw [nb];rfl
theorem rrec_ev (w r:FI) (x y:pA) (v:Vl) (B:Nat) (jj:y.mems.length<=1000) (lw:x.mems.length<=1000) (js:v.items.length=x.mems.length) (f:Int->Vl->Int->Option Vl) (pay:Int->Vl->ByteArray)
  (H:∀ (j:Nat) (m:zB) (u:Vl) (n:zB),x.mems[j]?=some m->v.items[j]?=some u->n∈y.mems->RdP w r B m.ty u n.ty (f m.ty u n.ty)) (H2:∀ (j:Nat) (m:zB) (u:Vl),x.mems[j]?=some m->v.items[j]?=some u->ZG w.nl w.types m.ty u (pay m.ty u)) (jy:∀ m∈x.mems,m.dflt.ok) (hdy:∀ m∈y.mems,m.dflt.ok) (pb:Bool) (p:List Int) (pd:p.length + (B + 1)<=1000000) :
  ∃ (qb:Bool) (q:List Int),gA 100 [.agg (GA w),.agg (eA x),.agg (fA v),.agg (GA r),.agg (eA y),.sl pb (p.map CD)] (.agg (aB (aL pay f x v y) qb q)):=by
 have R:=JT (ext:=tA) (f:=100) (args:=[.agg (GA w),.agg (eA x),.agg (fA v),.agg (GA r),.agg (eA y),.sl pb (p.map CD)]) (S0:=none) SW GE rfl rfl (F:=ResI (aL pay f x v y)) (P:=fun rv=>∃ qb q,rv=(.agg (aB (aL pay f x v y) qb q),none))
  (fun k rv hk=>rrec_run w r x y v pb p B pd jj lw js f pay H H2 jy hdy k rv hk) fun e s' h=>by
   obtain ⟨rfl,n,qb,q,e12,mb⟩:=h;refine ⟨(.agg (aB (aL pay f x v y) qb q),none),?_,qb,q,rfl⟩;cases ho:aL pay f x v y with
   | none =>
    rw [ho] at mb;simp only [aB,yf,ym] at mb;simp [GE,-J,-y4,-y3,y0,e12,mb,aB]
   | some u =>
    rw [ho] at mb;simp only [aB,yf,ym] at mb;simp [GE,-J,-y4,-y3,y0,e12,mb,aB]
 obtain ⟨rv,⟨qb,q,rfl⟩,hR⟩:=R;exact ⟨qb,q,hR⟩
mutual
def uQ:Vl->Nat
 | .mk _ _ _ s _ _ ks _ xs _ _=>10 + s.size + DI ks + DI xs
def DI:List Vl->Nat
 | []=>0
 | v :: r=>uQ v + DI r
end
theorem NH (v:Vl):uQ v=10 + v.s.size + DI v.keys + DI v.items:=by
 cases v;rw [uQ];rfl
theorem iQ:∀ {l:List Vl} {u:Vl},u∈l->uQ u<=DI l
 | v :: r,u,h=>by
  rw [DI];rcases yg.1 h with rfl | h
  ·omega
  ·have:=iQ h;omega
theorem wgt_key {v u:Vl} (h:u∈v.keys):uQ u + 10<=uQ v:=by
 rw [NH v];have:=iQ h;omega
theorem HN {v u:Vl} (h:u∈v.items):uQ u + 10<=uQ v:=by
 rw [NH v];have:=iQ h;omega
theorem sZ:∀ l:List Vl,l.length<=DI l
 | []=>yj _
 | v :: r=>by
  rw [DI,yF];have:=sZ r;have:=NH v;omega
theorem zQ {f:Int->Vl->Bool}:∀ {ms:List zB} {items:List Vl},BD f ms items=true->∀ (j:Nat) (m:zB) (u:Vl),ms[j]?=some m->items[j]?=some u->f m.ty u=true
 | [],_,_,j,m,u,h,_=>by simp at h
 | _ :: _,[],_,j,m,u,_,h=>by simp at h
 | m0 :: r,u0 :: q,hp,0,m,u,h1,h2=>by
  rw [BD,y7] at hp;simp at h1 h2;rw [<- h1,<- h2];exact hp.1
 | m0 :: r,u0 :: q,hp,j + 1,m,u,h1,h2=>by
  rw [BD,y7] at hp;exact zQ hp.2 j m u (by simpa using h1) (by simpa using h2)
structure RdF (w r:FI):Prop where
 good:JO w.types
 few:∀ x∈w.types,x.mems.length<=12
 win:∀ x∈w.types,OF w.types.length x
 rgood:JO r.types
 rfew:∀ x∈r.types,x.mems.length<=12
 rwin:∀ x∈r.types,OF r.types.length x
 pay:∀ t u,QB w.types t u=true->uQ u<=1000000->(eP w.types t u).size<=140737488355328
theorem RdF.rpay {w r:FI} (F:RdF w r) {t:Int} {u:Vl} (h:QB w.types t u=true) (ho:u.ok) (h6:u.i64) (hw:uQ u<=1000000):ZG w.nl w.types t u (eP w.types t u) :=
 rpays_ev w.nl w.types F.good F.few _ t u h ho h6 (F.pay t u h hw)
end Go.Proofs.YtbhbeakhognieaaGreat
