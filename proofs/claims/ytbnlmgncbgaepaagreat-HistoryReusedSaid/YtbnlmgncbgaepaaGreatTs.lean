/- A part of the proof. -/
import Derived.Test.YtbnlmgncbgaepaaGreatTo
import Derived.Test.YtbnlmgncbgaepaaGreatTp
import Derived.Test.YtbnlmgncbgaepaaGreatTq
import Derived.Test.YtbnlmgncbgaepaaGreatTr
set_option linter.all false
set_option maxRecDepth 100000
set_option maxHeartbeats 8000000
open Option renaming bind_some → V
open List renaming range_succ → y0, map_map → y3, getElem?_eq_getElem → y5, getElem_mem → y7, getElem?_eq_some_iff → yf, mem_of_getElem? → yl, mem_append → yp, length_append → yy, getElem_of_mem → yz
open Int renaming toNat_lt → y4
namespace Go.Proofs.YtbnlmgncbgaepaaGreat
open Go
section
variable (s:DH) (hs:s.fine) (hv:valid s.types=0) {i:Int} (h0:0<=i) (h1:i<s.types.length)
include s hs hv i h0 h1
theorem GX:fA 214 [.agg (TA s),.int .i64 i] (.int .i64 0):=by
 have h:=uZ s hs;rw [hv] at h;refine rA (c:=jH) rfl rfl ?_;simp only [fA,TA] at h ⊢;have c1:¬ i<0:=by omega
 have c2:¬ (s.types.length:Int)<=i:=by omega
 simp [jH,-V,-y4,-y3,y0,h,c1,c2]
theorem r10_ev:fA 120 [.agg (TA s),.int .i64 i] (.int .i64 0):=by
 have h:=qV s hs;rw [hv] at h;refine rA (c:=AK) rfl rfl ?_;simp only [fA,TA] at h ⊢;have c1:¬ i<0:=by omega
 have c2:¬ (s.types.length:Int)<=i:=by omega
 simp [AK,-V,-y4,-y3,y0,h,c1,c2]
end
section
variable (w r:DH) (hw:w.fine) (hr:r.fine) (vw:valid w.types=0) (vr:valid r.types=0) {i k:Int} (hi:0<=i/\i<w.types.length) (hk:0<=k/\k<r.types.length) {v:Vl} (na:v.ok) (ad:v.i64) (hp:AI w.types i v=true)
include w r hw hr vw vr i k hi hk v na ad hp
theorem mcheck_ev :
  fA 194 [.agg (TA w),.int .i64 i,.agg (lA v),.agg (TA r),.int .i64 k] (.int .i64 0):=by
 have h1:=GX w hw vw hi.1 hi.2;have h2:=GX r hr vr hk.1 hk.2;have h3:=plain_v w.nl w.types (DO hw vw) i v na ad;rw [hp] at h3;refine rA (c:=pI) rfl rfl ?_;simp only [fA,TA,uE,uA] at h1 h2 h3 ⊢;simp [pI,-V,-y4,-y3,y0,h1,h2,h3]
theorem d9 :
  fA 74 [.agg (TA w),.int .i64 i,.agg (lA v),.agg (TA r),.int .i64 k] (.int .i64 0):=by
 have h1:=r10_ev w hw vw hi.1 hi.2;have h2:=r10_ev r hr vr hk.1 hk.2;have h3:=T9 w.nl w.types (DO hw vw) i v na ad;rw [hp] at h3;refine rA (c:=SK) rfl rfl ?_;simp only [fA,TA,uE,uA] at h1 h2 h3 ⊢;simp [SK,-V,-y4,-y3,y0,h1,h2,h3]
end
theorem vequal_ev:∀ (n:Nat) (v w:Vl),SizeOf.sizeOf v<n->v.ok->fA 156 [.agg (lA v),.agg (lA w)] (.bool (v.same w)):=by
 intro n
 induction n with
 | zero=>intro v w h; omega
 | succ n ih =>
  intro v w hn hv;rw [Vl.ok_def] at hv;obtain ⟨o1,o2,o3,o4,o5,o6⟩:=hv;have hr:=raws_ev v.rest w.rest o3 v.rn w.rn;have ij:=H3 156 v.keys w.keys o1 (fun x hx y _=>ih x y (by have:=Vl.keys_lt v x hx; omega) (o5 x hx)) v.kn w.kn;have zd:=H3 156 v.items w.items o2 (fun x hx y _=>ih x y (by have:=Vl.items_lt v x hx; omega) (o6 x hx)) v.xn w.xn;simp only [fA] at hr ij zd;refine rA (c:=wD) rfl rfl ?_;rw [uA,uA,Vl.same_def];by_cases h1:v.kind=w.kind
  ·by_cases h2:v.b=w.b
   ·by_cases h3:v.i=w.i
    ·by_cases h4:v.s=w.s
     ·by_cases h5:v.id=w.id
      ·by_cases h6:v.rest=w.rest
       ·cases h7:Vl.sames v.keys w.keys with
        | true=>rw [h7] at ij; simp [wD,-V,-y4,-y3,y0,h1,h2,h3,h4,h5,h6 ▸ hr,h6,GF,nD,ij,zd,h7]
        | false=>rw [h7] at ij; simp [wD,-V,-y4,-y3,y0,h1,h2,h3,h4,h5,h6 ▸ hr,h6,GF,nD,ij,h7]
       ·simp [wD,-V,-y4,-y3,y0,h1,h2,h3,h4,h5,hr,h6]
      ·simp [wD,-V,-y4,-y3,y0,h1,h2,h3,h4,h5]
     ·simp [wD,-V,-y4,-y3,y0,h1,h2,h3,h4]
    ·simp [wD,-V,-y4,-y3,y0,h1,h2,h3]
   ·simp [wD,-V,-y4,-y3,y0,h1,h2]
  ·simp [wD,-V,-y4,-y3,y0,h1]
theorem rvequal_ev (v w:Vl) (hv:v.ok):fA 191 [.agg (lA v),.agg (lA w)] (.bool (v.same w)):=by
 have h:=JY _ v w (Nat.lt_succ_self _) hv;refine rA (c:=UK) rfl rfl ?_;simp only [fA,uA] at h ⊢;simp [UK,-V,-y4,-y3,y0,h]
section
variable (w r:DH) (hw:w.fine) (hr:r.fine) (vw:valid w.types=0) (vr:valid r.types=0) {x y:sA} {i k:Int} (hi:0<=i) (gx:w.types[i.toNat]?=some x) (hk:0<=k) (gy:r.types[k.toNat]?=some y) (jl:x.kind≠5/\x.kind≠6) (vk:Int) (vb:Bool) (vi:Int) (vs:ByteArray) (vd:Int) (na:(Vl.of vk vb vi vs vd).ok) (ad:(Vl.of vk vb vi vs vd).i64) (hp:AI w.types i (.of vk vb vi vs vd)=true) (fk:y.syms.length<=8796093022206) (ed:y.kind=7\/y.kind=8->0<=y.max)
include w r hw hr vw vr x y i k hi gx hk gy jl vk vb vi vs vd na ad hp fk ed
theorem reading_ev :
  fA 155 [.agg (TA w),.int .i64 i,.agg (lA (.of vk vb vi vs vd)),.agg (TA r),.int .i64 k] (.tup [.agg (lA (FM (aP x y (.of vk vb vi vs vd)) (.of vk vb vi vs vd))),.int .i64 (if aP x y (.of vk vb vi vs vd)=true then 0 else 12)]):=by
 have li:=(yf.1 gx).1;have lk:=(yf.1 gy).1;have h1:=mcheck_ev w r hw hr vw vr ⟨hi,by omega⟩ ⟨hk,by omega⟩ na ad hp;have h2:=pread_ev w r hi gx hk gy fk ed jl vk vb vi vs vd;refine rA (c:=wF) rfl rfl ?_;simp only [fA,TA,JA,CP] at h1 h2 ⊢;cases hb:aP x y (.of vk vb vi vs vd) with
 | true =>
  rw [hb] at h2;simp only [FM,if_true,JA] at h2;simp [wF,-V,-y4,-y3,y0,RC,dF,mD,FG,tC,GL,GI,h1,h2,FM,JA]
 | false =>
  rw [hb] at h2;simp [FM,JA] at h2;simp [wF,-V,-y4,-y3,y0,RC,dF,mD,FG,tC,GL,GI,h1,h2,FM,JA]
theorem U9 :
  fA 23 [.agg (TA w),.int .i64 i,.agg (lA (.of vk vb vi vs vd)),.agg (TA r),.int .i64 k] (.tup [.agg (lA (FM (aP x y (.of vk vb vi vs vd)) (.of vk vb vi vs vd))),.int .i64 (if aP x y (.of vk vb vi vs vd)=true then 0 else 12)]):=by
 have li:=(yf.1 gx).1;have lk:=(yf.1 gy).1;have h1:=d9 w r hw hr vw vr ⟨hi,by omega⟩ ⟨hk,by omega⟩ na ad hp;have h2:=rread_ev w r hi gx hk gy fk ed jl vk vb vi vs vd;refine rA (c:=dG) rfl rfl ?_;simp only [fA,TA,JA] at h1 h2 ⊢;cases hb:aP x y (.of vk vb vi vs vd) with
 | true =>
  rw [hb] at h2;simp [FM,JA] at h2;simp [dG,-V,-y4,-y3,y0,h1,h2,FM,JA]
 | false =>
  rw [hb] at h2;simp [FM,JA] at h2;simp [dG,-V,-y4,-y3,y0,h1,h2,FM,JA]
theorem rmeans_ev (u:Vl) :
  fA 157 [.agg (TA w),.int .i64 i,.agg (lA (.of vk vb vi vs vd)),.agg (TA r),.int .i64 k,.agg (lA u)] (.bool (aP x y (.of vk vb vi vs vd)&&(Vl.of vk vb vi vs vd).same u)):=by
 have h1:=U9 w r hw hr vw vr hi gx hk gy jl vk vb vi vs vd na ad hp fk ed;have h2:=rvequal_ev (.of vk vb vi vs vd) u na;refine rA (c:=XH) rfl rfl ?_;cases hb:aP x y (.of vk vb vi vs vd) with
 | true =>
  rw [hb] at h1;simp only [fA,TA,JA,FM,if_true] at h1 h2 ⊢;rw [uA u] at h2 ⊢;simp [XH,-V,-y4,-y3,y0,h1,h2]
 | false =>
  rw [hb] at h1;simp [FM,JA,TA] at h1 ⊢;rw [uA u];simp [XH,-V,-y4,-y3,y0,h1]
end
def nH (S:List sA) (z:Int):sA:=(S[z.toNat]?).getD LB
theorem EM {S:List sA} {z:Int} (h0:0<=z) (h1:z<S.length):S[z.toNat]?=some (nH S z):=by
 unfold nH;rw [y5 (show z.toNat<S.length by omega)];rfl
theorem pQ {S:List sA} {z:Int} (h0:0<=z) (h1:z<S.length):nH S z∈S:=yl (EM h0 h1)
theorem D0 {S:List sA}:∀ n i,ED S n i=none->∀ j t,i<=j->j<i + n->S[j]?=some t->NH S t=none
 | 0,i,_,j,t,h1,h2,_=>by omega
 | n + 1,i,h,j,t,h1,h2,ht=>by
  rw [ED] at h;cases hi:S[i]? with
  | none =>
   have e1:=List.getElem?_eq_none_iff.1 hi;have e2:=(yf.1 ht).1;omega
  | some u =>
   rw [hi] at h;simp only at h;cases hd:NH S u with
   | some d=>rw [hd] at h; cases h
   | none =>
    rw [hd] at h;by_cases e:i=j
    ·subst e;rw [hi] at ht;injection ht with ht;rw [<- ht];exact hd
    ·exact D0 n (i + 1) h j t (by omega) (by omega) ht
theorem err_dflt {S:List sA} (h:eE S=0) {x:sA} (hx:x∈S) {m:SB} (hm:m∈x.mems) (hh:m.has=true):AI S m.ty m.dflt=true:=by
 have hv:=dK h;unfold eE at h;rw [if_pos hv] at h;cases hd:ED S S.length 0 with
 | some p=>rw [hd] at h; cases h
 | none =>
  obtain ⟨j,hj,rfl⟩:=yz hx;have:=D0 _ _ hd j _ (Nat.zero_le j) (by omega) (y5 hj);unfold NH at this;rw [Option.map_eq_none_iff,List.find?_eq_none] at this;have hb:=this m hm;unfold fM at hb;rw [hh] at hb;simpa using hb
structure DrF (S:List sA):Prop where
 fine:(⟨false,S⟩:DH).fine
 d64:(⟨false,S⟩:DH).d64
 err:eE S=0
 sm:∀ x∈S,x.sm
 hol:∀ x∈S,∀ m∈x.mems,∃ k b i s d,m.dflt=.of k b i s d
 k56:∀ x∈S,∀ m∈x.mems,m.has=true->∀ y,S[m.ty.toNat]?=some y->y.kind≠5/\y.kind≠6
theorem F3 {l:List jC} (hl:oks l):DrF (RA l):=by
 obtain ⟨hf,h6⟩:=rwS_ok hl (iL l);have hx:∀ x∈RA l,∃ j,j<l.length/\x=zB l (j:Int):=fun x hx=>by
  obtain ⟨j,hj,rfl⟩:=yz hx;exact ⟨j,by simpa [RA] using hj,by simp [RA]⟩
 refine ⟨hf,h6,rwS_err hl (iL l),fun x hm=>?_,fun x hm m zr=>?_,fun x hm=>?_⟩
 ·obtain ⟨j,hj,rfl⟩:=hx x hm;intro hk;have na:=TF hl hj;obtain ⟨xk,xa,xb,xc,_⟩:=hx0 _ na;unfold zB at hk ⊢;generalize FA l (j:Int)=x at *
  simp only at hk ⊢;split at hk
  all_goals first | (simp [sA.of] at hk; done) | skip
  ·simp only [sA.of,jC.low,jC.high];omega
  all_goals split at hk <;> simp [sA.of] at hk
 ·obtain ⟨j,hj,rfl⟩:=hx x hm;obtain ⟨rc,id,p,_,_,rfl⟩:=tZ hl hj zr;simp only [LL];split
  ·unfold NJ;split
   ·exact ⟨_,_,_,_,_,rfl⟩
   ·exact ⟨_,_,_,_,_,rfl⟩
  ·exact ⟨0,false,0,⟨#[]⟩,0,rfl⟩
 ·obtain ⟨j,hj,he⟩:=yz hm;rw [<- he];exact dflt_kind hl (iL l) j hj
theorem DrF.val {S:List sA} (h:DrF S):valid S=0:=dK h.err
theorem DrF.gd {S:List sA} (h:DrF S) {x:sA} (hx:x∈S):TyGd S x:=by
 have hf:=(h.fine.2 x hx).2;refine ⟨hf.1,hf.2,fun hk=>?_⟩;obtain ⟨j,hj,rfl⟩:=yz hx;have hW:=BD h.val _ (y7 hj);have dc:=hW.key hk;have kh:=QG h.val j hj;have hg:=(MH kh).1;refine ⟨dc.1,lX hg hk,nH S S[j].key,EM dc.1 dc.2,?_⟩;have hka:II S S[j].key=(nH S S[j].key).kind:=by unfold II; rw [EM dc.1 dc.2]
 have h14:1<=II S S[j].key/\II S S[j].key<=4:=by
  unfold kC at kh;by_cases c:S[j].kind=8/\¬ (1<=II S S[j].key/\II S S[j].key<=4)
  ·rw [if_pos c] at kh;split at kh
   ·cases kh
   ·split at kh
    ·cases kh
    ·split at kh <;> cases kh
  ·exact Decidable.byContradiction fun h=>c ⟨hk,h⟩
 rw [hka] at h14;exact ⟨h14.1,h14.2,h.sm _ (pQ dc.1 dc.2)⟩
theorem good_max0 {x:sA} (h:gB x=true) (hk:x.kind=7\/x.kind=8):0<=x.max:=by
 unfold gB tI at h;rcases hk with hk | hk <;> simp [hk] at h <;> omega
def mnsP (W R:List sA) (f g:SB):Bool:=aP (nH W f.ty) (nH R g.ty) f.dflt&&f.dflt.same g.dflt
theorem means2 {W R:List sA} (hw:DrF W) (hr:DrF R) {x y:sA} (hx:x∈W) (hy:y∈R):FW ⟨false,W⟩ ⟨false,R⟩ (mnsP W R) x.mems y.mems:=by
 intro f hf g hg bj te;have wx:=(BD hw.val x hx).mems f hf;have wy:=(BD hr.val y hy).mems g hg;have gx:=EM wx.1 wx.2;have gy:=EM wy.1 wy.2;have jl:=hw.k56 x hx f hf bj _ gx;have hp:=err_dflt hw.err hx hf bj;have na:=((hw.fine.2 x hx).1.2.2 f hf).1;have ad:=hw.d64 x hx f hf;have fk:=(hr.fine.2 _ (pQ wy.1 wy.2)).2.1;have ed:(nH R g.ty).kind=7\/(nH R g.ty).kind=8->0<=(nH R g.ty).max:=fun hk=>by
  obtain ⟨j,hj,he⟩:=yz (pQ wy.1 wy.2);rw [<- he] at hk ⊢;exact good_max0 (MH (QG hr.val j hj)).1 hk
 obtain ⟨vk,vb,vi,vs,vd,hd⟩:=hw.hol x hx f hf;unfold mnsP;rw [hd] at hp na ad ⊢;have h1:=reading_ev ⟨false,W⟩ ⟨false,R⟩ hw.fine hr.fine hw.val hr.val wx.1 gx wy.1 gy jl vk vb vi vs vd na ad hp fk ed;have h2:=rmeans_ev ⟨false,W⟩ ⟨false,R⟩ hw.fine hr.fine hw.val hr.val wx.1 gx wy.1 gy jl vk vb vi vs vd na ad hp fk ed g.dflt;refine ⟨⟨_,_,h1,?_,?_⟩,h2⟩
 ·intro he;cases hb:aP (nH W f.ty) (nH R g.ty) (.of vk vb vi vs vd) with
  | false=>rw [hb] at he; simp at he
  | true=>exact vequal_ev _ _ _ (Nat.lt_succ_self _) na
 ·intro he;cases hb:aP (nH W f.ty) (nH R g.ty) (.of vk vb vi vs vd) with
  | true=>rw [hb] at he; simp at he
  | false=>rfl
def nxP (W R:List sA) (p:Pr):List Pr:=HN (nH W p.1) (nH R p.2)
noncomputable def rsP (W R:List sA) (p:Pr):Int:=rsnP (mnsP W R) W (nH W p.1) (nH R p.2)
theorem DrF.few {S:List sA} (h:DrF S) {x:sA} (hx:x∈S):x.mems.length<=16:=(BD h.val x hx).few
theorem simF {W R:List sA} (hw:DrF W) (hr:DrF R):SimF ⟨false,W⟩ ⟨false,R⟩ (nxP W R) (rsP W R):=by
 have all:∀ p,JR W.length R.length p->W[p.1.toNat]?=some (nH W p.1)/\R[p.2.toNat]?=some (nH R p.2)/\nH W p.1∈W/\nH R p.2∈R:=fun p ⟨h1,h2,h3,h4⟩=>⟨EM h1 h2,EM h3 h4,pQ h1 h2,pQ h3 h4⟩
 refine ⟨fun p hp=>?_,fun p hp=>?_,fun p hp=>?_,fun p hp=>?_,fun p hp q hq=>?_,fun p hp=>?_,ZI hw.val,ZI hr.val⟩
 ·obtain ⟨g1,g2,m1,m2⟩:=all p hp;exact HZ ⟨false,W⟩ ⟨false,R⟩ hp.1 g1 hp.2.2.1 g2 (by have:=hw.few m1; omega) (by have:=hr.few m2; omega)
 ·obtain ⟨g1,g2,m1,m2⟩:=all p hp;exact next_ev ⟨false,W⟩ ⟨false,R⟩ hp.1 g1 hp.2.2.1 g2 (by have:=hw.few m1; omega) (by have:=hr.few m2; omega)
 ·obtain ⟨g1,g2,m1,m2⟩:=all p hp;exact reason_ev ⟨false,W⟩ ⟨false,R⟩ hp.1 g1 hp.2.2.1 g2 (hw.gd m1) (hr.gd m2) (means2 hw hr m1 m2)
 ·obtain ⟨g1,g2,m1,m2⟩:=all p hp;exact rreason_ev ⟨false,W⟩ ⟨false,R⟩ hp.1 g1 hp.2.2.1 g2 (hw.gd m1) (hr.gd m2) (means2 hw hr m1 m2)
 ·obtain ⟨g1,g2,m1,m2⟩:=all p hp;have wx:=BD hw.val _ m1;have wy:=BD hr.val _ m2;simp only [nxP,HN] at hq;split at hq
  case isFalse=>cases hq
  rename_i hk;rw [cN] at hq;rcases hq with hq | hq
  ·cases hq
  rw [yp,yp] at hq;rcases hq with (hq | hq) | hq
  ·unfold RN at hq;rw [List.mem_flatMap] at hq;obtain ⟨f,hf,hq⟩:=hq;unfold A3 at hq;split at hq
   ·split at hq
    ·rename_i g hg;simp at hq;subst hq;have a:=wx.mems f hf;have b:=wy.mems g (yl hg);exact ⟨a.1,a.2,b.1,b.2⟩
    ·cases hq
   ·cases hq
  ·unfold B3 at hq;split at hq
   ·rename_i h8;simp at hq;subst hq;have a:=wx.key h8.1;have b:=wy.key (by rw [<- hk]; exact h8.1);exact ⟨a.1,a.2,b.1,b.2⟩
   ·cases hq
  ·unfold US at hq;split at hq
   ·rename_i h8;simp at hq;subst hq;have a:=wx.elem (by omega);have b:=wy.elem (by rw [<- hk]; omega);exact ⟨a.1,a.2,b.1,b.2⟩
   ·cases hq
 ·obtain ⟨_,_,m1,_⟩:=all p hp;have h1:=hw.few m1;unfold nxP HN;split
  ·have h2:=lS (RN (nH W p.1).mems (nH R p.2).mems++B3 (nH W p.1) (nH R p.2)++US (nH W p.1) (nH R p.2)) [];have h3:=WP (nH R p.2).mems (nH W p.1).mems;have h4:(B3 (nH W p.1) (nH R p.2)).length<=1:=by unfold B3; split <;> simp
   have h5:(US (nH W p.1) (nH R p.2)).length<=1:=by unfold US; split <;> simp
   simp only [yy,List.length_nil] at h2;omega
  ·simp
end Go.Proofs.YtbnlmgncbgaepaaGreat
