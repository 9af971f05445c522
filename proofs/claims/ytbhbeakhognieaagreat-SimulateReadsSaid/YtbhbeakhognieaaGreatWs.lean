/- A part of the proof. -/
import Derived.Test.YtbhbeakhognieaaGreatWo
import Derived.Test.YtbhbeakhognieaaGreatWp
import Derived.Test.YtbhbeakhognieaaGreatWq
import Derived.Test.YtbhbeakhognieaaGreatWr
set_option linter.all false
set_option maxRecDepth 100000
set_option maxHeartbeats 8000000
open Option renaming bind_some → J
open List renaming range_succ → y0, map_map → y3, getElem?_eq_getElem → y5, getElem_mem → y8, getElem?_eq_some_iff → y9, mem_of_getElem? → yh, getElem_of_mem → yq, mem_append → yx, length_append → yz
open Int renaming toNat_lt → y4
namespace Go.Proofs.YtbhbeakhognieaaGreat
open Go
section
variable (s:FI) (hs:s.fine) (hv:valid s.types=0) {i:Int} (h0:0<=i) (h1:i<s.types.length)
include s hs hv i h0 h1
theorem SX:gA 214 [.agg (GA s),.int .i64 i] (.int .i64 0):=by
 have h:=uZ s hs;rw [hv] at h;refine rA (c:=fH) rfl rfl ?_;simp only [gA,GA] at h ⊢;have c1:¬ i<0:=by omega
 have c2:¬ (s.types.length:Int)<=i:=by omega
 simp [fH,-J,-y4,-y3,y0,h,c1,c2]
theorem r10_ev:gA 95 [.agg (GA s),.int .i64 i] (.int .i64 0):=by
 have h:=rvalid_ev s hs;rw [hv] at h;refine rA (c:=zK) rfl rfl ?_;simp only [gA,GA] at h ⊢;have c1:¬ i<0:=by omega
 have c2:¬ (s.types.length:Int)<=i:=by omega
 simp [zK,-J,-y4,-y3,y0,h,c1,c2]
end
section
variable (w r:FI) (hw:w.fine) (hr:r.fine) (vw:valid w.types=0) (vr:valid r.types=0) {i k:Int} (hi:0<=i/\i<w.types.length) (hk:0<=k/\k<r.types.length) {v:Vl} (sa:v.ok) (de:v.i64) (hp:QB w.types i v=true)
include w r hw hr vw vr i k hi hk v sa de hp
theorem mcheck_ev :
  gA 185 [.agg (GA w),.int .i64 i,.agg (fA v),.agg (GA r),.int .i64 k] (.int .i64 0):=by
 have h1:=SX w hw vw hi.1 hi.2;have h2:=SX r hr vr hk.1 hk.2;have h3:=plain_v w.nl w.types (nI hw vw) i v sa de;rw [hp] at h3;refine rA (c:=wI) rfl rfl ?_;simp only [gA,GA,QD,qA] at h1 h2 h3 ⊢;simp [wI,-J,-y4,-y3,y0,h1,h2,h3]
theorem w8 :
  gA 58 [.agg (GA w),.int .i64 i,.agg (fA v),.agg (GA r),.int .i64 k] (.int .i64 0):=by
 have h1:=r10_ev w hw vw hi.1 hi.2;have h2:=r10_ev r hr vr hk.1 hk.2;have h3:=rplain_v w.nl w.types (nI hw vw) i v sa de;rw [hp] at h3;refine rA (c:=xK) rfl rfl ?_;simp only [gA,GA,QD,qA] at h1 h2 h3 ⊢;simp [xK,-J,-y4,-y3,y0,h1,h2,h3]
end
theorem vequal_ev:∀ (n:Nat) (v w:Vl),SizeOf.sizeOf v<n->v.ok->gA 136 [.agg (fA v),.agg (fA w)] (.bool (v.same w)):=by
 intro n
 induction n with
 | zero=>intro v w h; omega
 | succ n ih =>
  intro v w hn hv;rw [Vl.ok_def] at hv;obtain ⟨o1,o2,o3,o4,o5,o6⟩:=hv;have hr:=raws_ev v.rest w.rest o3 v.rn w.rn;have fe:=d4 136 v.keys w.keys o1 (fun x hx y _=>ih x y (by have:=Vl.keys_lt v x hx; omega) (o5 x hx)) v.kn w.kn;have ed:=d4 136 v.items w.items o2 (fun x hx y _=>ih x y (by have:=Vl.items_lt v x hx; omega) (o6 x hx)) v.xn w.xn;simp only [gA] at hr fe ed;refine rA (c:=qD) rfl rfl ?_;rw [qA,qA,Vl.same_def];by_cases h1:v.kind=w.kind
  ·by_cases h2:v.b=w.b
   ·by_cases h3:v.i=w.i
    ·by_cases h4:v.s=w.s
     ·by_cases h5:v.id=w.id
      ·by_cases h6:v.rest=w.rest
       ·cases h7:Vl.sames v.keys w.keys with
        | true=>rw [h7] at fe; simp [qD,-J,-y4,-y3,y0,h1,h2,h3,h4,h5,h6 ▸ hr,h6,KF,RD,fe,ed,h7]
        | false=>rw [h7] at fe; simp [qD,-J,-y4,-y3,y0,h1,h2,h3,h4,h5,h6 ▸ hr,h6,KF,RD,fe,h7]
       ·simp [qD,-J,-y4,-y3,y0,h1,h2,h3,h4,h5,hr,h6]
      ·simp [qD,-J,-y4,-y3,y0,h1,h2,h3,h4,h5]
     ·simp [qD,-J,-y4,-y3,y0,h1,h2,h3,h4]
    ·simp [qD,-J,-y4,-y3,y0,h1,h2,h3]
   ·simp [qD,-J,-y4,-y3,y0,h1,h2]
  ·simp [qD,-J,-y4,-y3,y0,h1]
theorem rvequal_ev (v w:Vl) (hv:v.ok):gA 23 [.agg (fA v),.agg (fA w)] (.bool (v.same w)):=by
 have h:=bT _ v w (Nat.lt_succ_self _) hv;refine rA (c:=gK) rfl rfl ?_;simp only [gA,qA] at h ⊢;simp [gK,-J,-y4,-y3,y0,h]
theorem reading_ev (w r:FI) (hw:w.fine) (hr:r.fine) (vw:valid w.types=0) (vr:valid r.types=0) {x y:pA} {i k:Int} (hi:0<=i) (gx:w.types[i.toNat]?=some x) (hk:0<=k) (gy:r.types[k.toNat]?=some y) (kt:x.kind≠5/\x.kind≠6) (vk:Int) (vb:Bool) (vi:Int) (vs:ByteArray) (vd:Int)
  (sa:(Vl.of vk vb vi vs vd).ok) (de:(Vl.of vk vb vi vs vd).i64) (hp:QB w.types i (.of vk vb vi vs vd)=true) (bz:y.syms.length<=8796093022206) (nh:y.kind=7\/y.kind=8->0<=y.max) :
  gA 135 [.agg (GA w),.int .i64 i,.agg (fA (.of vk vb vi vs vd)),.agg (GA r),.int .i64 k] (.tup [.agg (fA (R5 (X4 x y (.of vk vb vi vs vd)) (.of vk vb vi vs vd))),.int .i64 (if X4 x y (.of vk vb vi vs vd)=true then 0 else 12)]):=by
 have li:=(y9.1 gx).1;have lk:=(y9.1 gy).1;have h1:=mcheck_ev w r hw hr vw vr ⟨hi,by omega⟩ ⟨hk,by omega⟩ sa de hp;have h2:=pread_ev w r hi gx hk gy bz nh kt vk vb vi vs vd;refine rA (c:=aF) rfl rfl ?_;simp only [gA,GA,EC,KP] at h1 h2 ⊢;cases hb:X4 x y (.of vk vb vi vs vd) with
 | true =>
  rw [hb] at h2;simp only [R5,if_true,EC] at h2;simp [aF,-J,-y4,-y3,y0,JA,IB,EB,GC,rB,iG,dE,h1,h2,R5,EC]
 | false =>
  rw [hb] at h2;simp [R5,EC] at h2;simp [aF,-J,-y4,-y3,y0,JA,IB,EB,GC,rB,iG,dE,h1,h2,R5,EC]
def SD (S:List pA) (z:Int):pA:=(S[z.toNat]?).getD tC
theorem nJ {S:List pA} {z:Int} (h0:0<=z) (h1:z<S.length):S[z.toNat]?=some (SD S z):=by
 unfold SD;rw [y5 (show z.toNat<S.length by omega)];rfl
theorem rQ {S:List pA} {z:Int} (h0:0<=z) (h1:z<S.length):SD S z∈S:=yh (nJ h0 h1)
theorem E1 {S:List pA}:∀ n i,sE S n i=none->∀ j t,i<=j->j<i + n->S[j]?=some t->PK S t=none
 | 0,i,_,j,t,h1,h2,_=>by omega
 | n + 1,i,h,j,t,h1,h2,ht=>by
  rw [sE] at h;cases hi:S[i]? with
  | none =>
   have e1:=List.getElem?_eq_none_iff.1 hi;have e2:=(y9.1 ht).1;omega
  | some u =>
   rw [hi] at h;simp only at h;cases hd:PK S u with
   | some d=>rw [hd] at h; cases h
   | none =>
    rw [hd] at h;by_cases e:i=j
    ·subst e;rw [hi] at ht;injection ht with ht;rw [<- ht];exact hd
    ·exact E1 n (i + 1) h j t (by omega) (by omega) ht
theorem err_dflt {S:List pA} (h:bF S=0) {x:pA} (hx:x∈S) {m:zB} (hm:m∈x.mems) (hh:m.has=true):QB S m.ty m.dflt=true:=by
 have hv:=WN h;unfold bF at h;rw [if_pos hv] at h;cases hd:sE S S.length 0 with
 | some p=>rw [hd] at h; cases h
 | none =>
  obtain ⟨j,hj,rfl⟩:=yq hx;have:=E1 _ _ hd j _ (Nat.zero_le j) (by omega) (y5 hj);unfold PK at this;rw [Option.map_eq_none_iff,List.find?_eq_none] at this;have hb:=this m hm;unfold qS at hb;rw [hh] at hb;simpa using hb
structure DrF (S:List pA):Prop where
 fine:(⟨false,S⟩:FI).fine
 d64:(⟨false,S⟩:FI).d64
 err:bF S=0
 sm:∀ x∈S,x.sm
 hol:∀ x∈S,∀ m∈x.mems,∃ k b i s d,m.dflt=.of k b i s d
 k56:∀ x∈S,∀ m∈x.mems,m.has=true->∀ y,S[m.ty.toNat]?=some y->y.kind≠5/\y.kind≠6
theorem zS {l:List fC} (hl:oks l):DrF (lA l):=by
 obtain ⟨hf,h6⟩:=rwS_ok hl (XK l);have hx:∀ x∈lA l,∃ j,j<l.length/\x=kB l (j:Int):=fun x hx=>by
  obtain ⟨j,hj,rfl⟩:=yq hx;exact ⟨j,by simpa [lA] using hj,by simp [lA]⟩
 refine ⟨hf,h6,p5 hl (XK l),fun x hm=>?_,fun x hm m xm=>?_,fun x hm=>?_⟩
 ·obtain ⟨j,hj,rfl⟩:=hx x hm;intro hk;have sa:=jF hl hj;obtain ⟨xk,xa,xb,xc,_⟩:=E5 _ sa;unfold kB at hk ⊢;generalize DA l (j:Int)=x at *
  simp only at hk ⊢;split at hk
  all_goals first | (simp [pA.of] at hk; done) | skip
  ·simp only [pA.of,fC.low,fC.high];omega
  all_goals split at hk <;> simp [pA.of] at hk
 ·obtain ⟨j,hj,rfl⟩:=hx x hm;obtain ⟨rc,id,p,_,_,rfl⟩:=eZ hl hj xm;simp only [GK];split
  ·unfold DJ;split
   ·exact ⟨_,_,_,_,_,rfl⟩
   ·exact ⟨_,_,_,_,_,rfl⟩
  ·exact ⟨0,false,0,⟨#[]⟩,0,rfl⟩
 ·obtain ⟨j,hj,he⟩:=yq hm;rw [<- he];exact dflt_kind hl (XK l) j hj
theorem DrF.val {S:List pA} (h:DrF S):valid S=0:=WN h.err
theorem DrF.gd {S:List pA} (h:DrF S) {x:pA} (hx:x∈S):TyGd S x:=by
 have hf:=(h.fine.2 x hx).2;refine ⟨hf.1,hf.2,fun hk=>?_⟩;obtain ⟨j,hj,rfl⟩:=yq hx;have hW:=dD h.val _ (y8 hj);have sc:=hW.key hk;have kh:=SI h.val j hj;have hg:=(AK kh).1;refine ⟨sc.1,sX hg hk,SD S S[j].key,nJ sc.1 sc.2,?_⟩;have rm:MJ S S[j].key=(SD S S[j].key).kind:=by unfold MJ; rw [nJ sc.1 sc.2]
 have h14:1<=MJ S S[j].key/\MJ S S[j].key<=4:=by
  unfold tD at kh;by_cases c:S[j].kind=8/\¬ (1<=MJ S S[j].key/\MJ S S[j].key<=4)
  ·rw [if_pos c] at kh;split at kh
   ·cases kh
   ·split at kh
    ·cases kh
    ·split at kh <;> cases kh
  ·exact Decidable.byContradiction fun h=>c ⟨hk,h⟩
 rw [rm] at h14;exact ⟨h14.1,h14.2,h.sm _ (rQ sc.1 sc.2)⟩
theorem good_max0 {x:pA} (h:dB x=true) (hk:x.kind=7\/x.kind=8):0<=x.max:=by
 unfold dB LG at h;rcases hk with hk | hk <;> simp [hk] at h <;> omega
def mnsP (W R:List pA) (f g:zB):Bool:=X4 (SD W f.ty) (SD R g.ty) f.dflt&&f.dflt.same g.dflt
theorem means2 {W R:List pA} (hw:DrF W) (hr:DrF R) {x y:pA} (hx:x∈W) (hy:y∈R):t9 ⟨false,W⟩ ⟨false,R⟩ (mnsP W R) x.mems y.mems:=by
 intro f hf g hg zt im;have wx:=(dD hw.val x hx).mems f hf;have wy:=(dD hr.val y hy).mems g hg;have gx:=nJ wx.1 wx.2;have gy:=nJ wy.1 wy.2;have kt:=hw.k56 x hx f hf zt _ gx;have hp:=err_dflt hw.err hx hf zt;have sa:=((hw.fine.2 x hx).1.2.2 f hf).1;have de:=hw.d64 x hx f hf;have bz:=(hr.fine.2 _ (rQ wy.1 wy.2)).2.1;have nh:(SD R g.ty).kind=7\/(SD R g.ty).kind=8->0<=(SD R g.ty).max:=fun hk=>by
  obtain ⟨j,hj,he⟩:=yq (rQ wy.1 wy.2);rw [<- he] at hk ⊢;exact good_max0 (AK (SI hr.val j hj)).1 hk
 obtain ⟨vk,vb,vi,vs,vd,hd⟩:=hw.hol x hx f hf;unfold mnsP;rw [hd] at hp sa de ⊢;have h1:=reading_ev ⟨false,W⟩ ⟨false,R⟩ hw.fine hr.fine hw.val hr.val wx.1 gx wy.1 gy kt vk vb vi vs vd sa de hp bz nh;refine ⟨_,_,h1,?_,?_⟩
 ·intro he;cases hb:X4 (SD W f.ty) (SD R g.ty) (.of vk vb vi vs vd) with
  | false=>rw [hb] at he; simp at he
  | true=>exact vequal_ev _ _ _ (Nat.lt_succ_self _) sa
 ·intro he;cases hb:X4 (SD W f.ty) (SD R g.ty) (.of vk vb vi vs vd) with
  | true=>rw [hb] at he; simp at he
  | false=>rfl
def nxP (W R:List pA) (p:Pr):List Pr:=DS (SD W p.1) (SD R p.2)
noncomputable def rsP (W R:List pA) (p:Pr):Int:=rsnP (mnsP W R) W (SD W p.1) (SD R p.2)
theorem DrF.few {S:List pA} (h:DrF S) {x:pA} (hx:x∈S):x.mems.length<=16:=(dD h.val x hx).few
theorem simF {W R:List pA} (hw:DrF W) (hr:DrF R):SimF ⟨false,W⟩ ⟨false,R⟩ (nxP W R) (rsP W R):=by
 have all:∀ p,rP W.length R.length p->W[p.1.toNat]?=some (SD W p.1)/\R[p.2.toNat]?=some (SD R p.2)/\SD W p.1∈W/\SD R p.2∈R:=fun p ⟨h1,h2,h3,h4⟩=>⟨nJ h1 h2,nJ h3 h4,rQ h1 h2,rQ h3 h4⟩
 refine ⟨fun p hp=>?_,fun p hp=>?_,fun p hp q hq=>?_,fun p hp=>?_,GN hw.val,GN hr.val⟩
 ·obtain ⟨g1,g2,m1,m2⟩:=all p hp;exact NZ ⟨false,W⟩ ⟨false,R⟩ hp.1 g1 hp.2.2.1 g2 (by have:=hw.few m1; omega) (by have:=hr.few m2; omega)
 ·obtain ⟨g1,g2,m1,m2⟩:=all p hp;exact reason_ev ⟨false,W⟩ ⟨false,R⟩ hp.1 g1 hp.2.2.1 g2 (hw.gd m1) (hr.gd m2) (means2 hw hr m1 m2)
 ·obtain ⟨g1,g2,m1,m2⟩:=all p hp;have wx:=dD hw.val _ m1;have wy:=dD hr.val _ m2;simp only [nxP,DS] at hq;split at hq
  case isFalse=>cases hq
  rename_i hk;rw [OL] at hq;rcases hq with hq | hq
  ·cases hq
  rw [yx,yx] at hq;rcases hq with (hq | hq) | hq
  ·unfold sR at hq;rw [List.mem_flatMap] at hq;obtain ⟨f,hf,hq⟩:=hq;unfold N3 at hq;split at hq
   ·split at hq
    ·rename_i g hg;simp at hq;subst hq;have a:=wx.mems f hf;have b:=wy.mems g (yh hg);exact ⟨a.1,a.2,b.1,b.2⟩
    ·cases hq
   ·cases hq
  ·unfold xX at hq;split at hq
   ·rename_i h8;simp at hq;subst hq;have a:=wx.key h8.1;have b:=wy.key (by rw [<- hk]; exact h8.1);exact ⟨a.1,a.2,b.1,b.2⟩
   ·cases hq
  ·unfold cP at hq;split at hq
   ·rename_i h8;simp at hq;subst hq;have a:=wx.elem (by omega);have b:=wy.elem (by rw [<- hk]; omega);exact ⟨a.1,a.2,b.1,b.2⟩
   ·cases hq
 ·obtain ⟨_,_,m1,_⟩:=all p hp;have h1:=hw.few m1;unfold nxP DS;split
  ·have h2:=NR (sR (SD W p.1).mems (SD R p.2).mems++xX (SD W p.1) (SD R p.2)++cP (SD W p.1) (SD R p.2)) [];have h3:=KW (SD R p.2).mems (SD W p.1).mems;have h4:(xX (SD W p.1) (SD R p.2)).length<=1:=by unfold xX; split <;> simp
   have h5:(cP (SD W p.1) (SD R p.2)).length<=1:=by unfold cP; split <;> simp
   simp only [yz,List.length_nil] at h2;omega
  ·simp
end Go.Proofs.YtbhbeakhognieaaGreat
