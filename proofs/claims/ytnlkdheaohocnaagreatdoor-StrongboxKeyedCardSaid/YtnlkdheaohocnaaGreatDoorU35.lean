/- Whoever walks down with the secret signs what whoever walks down without it verifies, and the text of either walks the same way (StrongboxKeyed). No condition. -/
import Derived.Test.YtnlkdheaohocnaaGreatDoorU1
import Derived.Test.YtnlkdheaohocnaaGreatDoorU34
import Derived.Test.YtnlkdheaohocnaaGreatDoorU23
import Derived.Test.YtnlkdheaohocnaaGreatDoorU31
import Derived.Test.YtnlkdheaohocnaaGreatDoorU29
set_option maxRecDepth 1000000
set_option maxHeartbeats 16000000
set_option linter.unusedVariables false
set_option linter.unusedSimpArgs false
namespace Go.Proofs.YtnlkdheaohocnaaGreatDoor
open Go Go.RowKit Go.Shelf
theorem vq (w:World) (o1 o2 o3 o4 o5:Obj):(((((w.alloc o1).alloc o2).alloc o3).alloc o4).alloc o5).heap[w.heap.size]?=some o1∧(((((w.alloc o1).alloc o2).alloc o3).alloc o4).alloc o5).heap[w.heap.size+1]?=some o2∧
 (((((w.alloc o1).alloc o2).alloc o3).alloc o4).alloc o5).heap[w.heap.size+1+1]?=some o3∧(((((w.alloc o1).alloc o2).alloc o3).alloc o4).alloc o5).heap[w.heap.size+1+1+1]?=some o4∧(((((w.alloc o1).alloc o2).alloc o3).alloc o4).alloc o5).heap[w.heap.size+1+1+1+1]?=some o5:=by
 obtain⟨h1,h2,h3,h4⟩:=l6 w o1 o2 o3 o4;have h5:=adk ((((w.alloc o1).alloc o2).alloc o3).alloc o4) o5;simp only[adD] at h5;exact⟨dU h1,dU h2,dU h3,dU h4,h5⟩
def NZ (T:List Nat) (i:Nat):Prop:=∀j,i≤j→j<17→T[j]?=some 0
theorem NZ.set {T:List Nat} {i k v:Nat} (h:NZ T i) (hk:k<i):NZ (T.set k v) i:=fun j hj hl=>by rw[List.getElem?_set_ne (by omega)];exact h j hj hl
theorem NZ.mono {T:List Nat} {i k:Nat} (h:NZ T i) (hk:i≤k):NZ T k:=fun j hj hl=>h j (by omega) hl
theorem NZ.at {T:List Nat} {i:Nat} (h:NZ T i) (hi:i<17) (hl:i<T.length):T[i]=0:=by
 have:=h i (adi _) hi;rw[adp hl] at this;exact Option.some.inj this
theorem Cz (U:List Nat) (i c S:Nat) (hl:U.length=17) (hz:NZ U i) (hi:i<17) (h:wu U+c*2^(32*i)=S):wu (U.set i c)=S:=by
 have h1:=ER U i (by omega) c;rw[hz.at hi (by omega),Nat.zero_mul,Nat.add_zero] at h1;omega
theorem PY {X:List Nat} {i a Y:Nat} (hi:i<X.length) (ha:a=X[i]) (S:Nat) (hS:S=wu (X.take i)*Y):S+a*Y*2^(32*i)=wu (X.take (i+1))*Y:=by
 rw[lv X i hi,←ha,Nat.add_mul,←hS,Nat.mul_right_comm a]
theorem PZ (T X Y:List Nat) (i c c' t':Nat) (hT:i<T.length) (hX:i<X.length) (hY:i<Y.length) (h0:T[i]=0) (he:t'+4294967296*c'=X[i]+Y[i]+c)
 (h:wu T+c*2^(32*i)=wu (X.take i)+wu (Y.take i)):wu (T.set i t')+c'*2^(32*(i+1))=wu (X.take (i+1))+wu (Y.take (i+1)):=by
 have h1:=r0 T i hT (X[i]+Y[i]) c c' t' (by omega);rw[h1,lv X i hX,lv Y i hY,Nat.add_mul];omega
set_option exponentiation.threshold 1000 in
theorem Jv {x y:Nat} (hx:x<2^256) (hy:y<2^256):x*y<2^512:=by
 rw[show (512:Nat)=256+256 from rfl,Nat.pow_add];exact Nat.mul_lt_mul'' hx hy
set_option exponentiation.threshold 1000 in
theorem Jw {x y:Nat} (hx:x<2^256) (hy:y<2^256):x+y<2^512:=by
 refine ads (show x+y<2^257 by omega) (Nat.pow_le_pow_right (by decide) (by decide))
theorem mj {mM dM:Nat} (hm:RM mM dM) (x y:Nat) (hx:x<2^256) (hy:y<2^256) (w:World):
 Calls Tryz.prog 49 #[.agg (R8 x),.agg (R8 y),.agg (R8 mM)] w fun e W'=>e=.returned (.agg (R8 (x*y%mM)))∧Below w.heap.size w W':=by
 have bx:Tryz.prog.follows .mixedOrders=true:=by kernel_rfl
 obtain⟨R,hR⟩:∃R,R=x*y%mM:=⟨_,rfl⟩;rw[←hR];obtain⟨X,hX⟩:=ae (nu 8 x);obtain⟨Y,hY⟩:=ae (nu 8 y);have wO:Hid (X.length=8):=ab (by rw[hX,bg]);have M0:Hid (Y.length=8):=ab (by rw[hY,bg]);have Ux:Hid (∀t∈X,t<4294967296):=ab (by rw[hX];exact nR 8 x);have Uy:Hid (∀t∈Y,t<4294967296):=ab (by rw[hY];exact nR 8 y);have Rm:Hid (wu X=x):=ab (by rw[hX];exact lA 8 x hx);have Rn:Hid (wu Y=y):=ab (by rw[hY];exact lA 8 y hy);have Rp:Hid (x<2^256∧y<2^256):=ab ⟨hx,hy⟩;obtain⟨A,hA⟩:=ae (R8 x);obtain⟨B,hB⟩:=ae (R8 y);obtain⟨M,hM⟩:=ae (R8 mM);have Rs:R8 0=#[.int .u32 0,.int .u32 0,.int .u32 0,.int .u32 0,.int .u32 0,.int .u32 0,.int .u32 0,.int .u32 0]:=by kernel_rfl
 rw[←hA,←hB,←hM];obtain⟨W0,bD⟩:∃W0,W0=((((w.alloc (.cells A 92)).alloc (.cells B 92)).alloc (.cells M 92)).alloc (.cells (R8 0) 92)).alloc (.cells (dB (List.replicate 17 0)).toArray 143):=⟨_,rfl⟩;have h5:=vq w (.cells A 92) (.cells B 92) (.cells M 92) (.cells (R8 0) 92) (.cells (dB (List.replicate 17 0)).toArray 143);have qI:Hid (Below w.heap.size w W0):=ab (by rw[bD];exact(((((adl _ w).alloc (adi _) _).alloc (by simp) _).alloc (by simp;omega) _).alloc (by simp;omega) _).alloc (by simp;omega) _);rw[←bD] at h5;obtain⟨gX,gY,gM,gO,gT⟩:=h5;rw[hA,R8,←hX] at gX;rw[hB,R8,←hY] at gY;rw[hM] at gM;rw[Rs] at bD;obtain⟨G,hG⟩:=ae w.heap.size;rw[←hG] at gX gY gM gO gT;have GX:=ab gX;have GY:=ab gY;have GM:=ab gM;have GO:=ab gO;have GT:=ab gT;have wC:=ab bD;have HG:=ab hG;have HR:=ab hR;clear hX hY hA hB hM Rs bD gX gY gM gO gT hG hx hy hR;go_enter Tryz.func49,Tryz.ntmps49;go_wp2_with fail;refine(show W0=_ from wC.out)▸?_;rw[←HG.out];go_loopw [8] (fun iv wr=>∃(i:Nat) (T:List Nat),i≤8∧iv=.int .i64 i∧Hid (T.length=17∧(∀t∈T,t<4294967296)∧NZ T (i+8)∧wu T=wu (X.take i)*y)∧wr.heap[G+1+1+1+1]?=some (.cells (dB T).toArray 143 (0,0))∧W0.grownBy wr (some (G+1+1+1+1))) (fun iv _=>8-(intOf iv).toNat)
 case atStart=>exact⟨0,List.replicate 17 0,by omega,rfl,ab ⟨by simp,by simp,fun j _ hj=>by rw[List.getElem?_replicate,if_pos hj],by rw[vh];simp[wu]⟩,GT.out,dh _ _⟩
 case round=>
  obtain⟨i,T,hi,rfl,HT,gT,hg⟩:=hrel
  by_cases aV:i<8
  · have C9:i<X.length:=by rw[wO.out];exact aV
    obtain⟨a,ha⟩:∃a,a=X[i]:=⟨_,rfl⟩;have UF:a<4294967296:=by rw[ha];exact Ux.out _ (List.getElem_mem _)
    obtain⟨S,hS⟩:=ae (wu T);have HE:Hid (S+a*y*2^(32*i)=wu (X.take (i+1))*y):=ab (PY C9 ha S (by rw[hS,HT.out.2.2.2]));have S9:Hid (T.length=17∧(∀t∈T,t<4294967296)∧NZ T (i+8)∧wu T+0*2^(32*(i+0))=S+a*wu (Y.take 0)*2^(32*i)):=ab ⟨HT.out.1,HT.out.2.1,HT.out.2.2.1,by rw[hS];simp[wu]⟩;have Ha:=ab ha;have GC:=ab gT;have Hg:=ab hg;clear ha hS gT hg HT;go_wp2_with fail;go_loopw [9,10] (fun cv jv wj=>∃(j c:Nat) (U:List Nat),j≤8∧jv=.int .i64 j∧cv=.int .u64 c∧c<4294967296∧Hid (U.length=17∧(∀t∈U,t<4294967296)∧NZ U (i+8)∧wu U+c*2^(32*(i+j))=S+a*wu (Y.take j)*2^(32*i))∧wj.heap[G+1+1+1+1]?=some (.cells (dB U).toArray 143 (0,0))∧W0.grownBy wj (some (G+1+1+1+1))) (fun _ jv _=>8-(intOf jv).toNat)
    case atStart=>exact⟨0,0,T,by omega,rfl,rfl,by omega,ab S9.out,GC.out,Hg.out⟩
    case round=>
     clear GC Hg S9;obtain⟨j,c,U,NT,rfl,rfl,hc,HU,gT,hg⟩:=hrel;have gX:=(hg.block G (cp GX.out) (by simp;omega)).trans GX.out;have gY:=(hg.block (G+1) (cp GY.out) (by simp)).trans GY.out
     by_cases UH:j<8
     · obtain⟨p,hp⟩:∃p,p=i+j:=⟨_,rfl⟩
       have Ju:p<17:=by omega
       have hpI:(i:Int)+(j:Int)=(p:Int):=by omega
       have Z9:p<U.length:=by rw[HU.out.1];exact Ju
       have Ro:j<Y.length:=by rw[M0.out];exact UH
       obtain⟨t,ht⟩:∃t,t=U[p]:=⟨_,rfl⟩;obtain⟨d,hd⟩:∃d,d=Y[j]:=⟨_,rfl⟩;have PV:t<4294967296:=by rw[ht];exact HU.out.2.1 _ (List.getElem_mem _)
       have ES:d<4294967296:=by rw[hd];exact Uy.out _ (List.getElem_mem _)
       have cX:=cf gX C9;rw[←Ha.out] at cX;have cY:=cf gY Ro;rw[←hd] at cY;have cN:=cf gT Z9;rw[←ht] at cN;have zN:=dQ gT p;obtain⟨m1,m2,m3⟩:=Rq a d t c UF ES PV hc;obtain⟨m,hm⟩:∃m,m=a*d:=⟨_,rfl⟩;have WM:(a:Int)*(d:Int)=(m:Int):=by rw[hm];push_cast;rfl
       rw[←hm] at m1 m2 m3
       have nd:=Gm U Y i j a c ((m+t+c)/4294967296) ((m+t+c)%4294967296) S (by omega) Ro (by
        have e1:U[i+j]'(by omega)=t:=by rw[ht];congr 1;exact hp.symm
        rw[e1,←hd,←hm];omega) HU.out.2.2.2
       rw[←hp] at nd;obtain⟨s,hs⟩:∃s,s=m+t+c:=⟨_,rfl⟩;have hsI:(m:Int)+(t:Int)+(c:Int)=(s:Int):=by omega
       have hmB:m≤s:=by rw[hs];omega
       rw[←hs] at m1 m2 m3 nd;have Na:=ab nd;have HUs:=ab (nT HU.out.2.1 m2 p);have HUz:=ab (HU.out.2.2.1.set (k:=p) (v:=s%4294967296) (by omega));have nn:Hid ((U.set p (s%4294967296)).length=17):=ab (by rw[List.length_set];exact HU.out.1);have GC:=ab gT;have Hg:=ab hg;have M3:=ab m3;clear hp ht hd hm hs nd gT hg Z9 Ro gX gY m2 m3;have hjt:decide ((j:Int)<8)=true:=adA (by omega);go_wp2_with fail;refine aE [(0,0),(1,0),(2,1),(3,0),(4,0),(5,0),(6,1),(7,0),(8,0),(9,0),(10,0),(11,0),(12,0),(13,1),(14,0),(15,0),(16,0),(17,0),(18,0)] 19 bx (by kernel_rfl) (by intro c a d v w h;cases d<;>exact h) ?_
       repeat ((first|(refine ao rfl (fun K hK=>?_))|(refine aD rfl (fun K hK=>?_)));go_simp;(first|(refine hK _ ?_)|(simp only[IntWalk.iteOmega];go_simp;refine hK _ ?_) );clear hK K;(try go_bits))
       refine aB ?_;go_wp2_with fail;go_simp;have iH:(s:Int)%4294967296=((s%4294967296:Nat):Int):=by omega
       have jt:(s:Int)/4294967296=((s/4294967296:Nat):Int):=by omega
       rw[iH,jt];exact⟨⟨j+1,by omega,by omega,s/4294967296,by omega,M3.out,U.set p (s%4294967296),ab ⟨nn.out,HUs.out,HUz.out,Na.out⟩,by rw[heap_drew,m7 GC.out],eO (cC Hg.out _ _)⟩,by simp only[intOf];omega⟩
     obtain rfl:j=8:=by omega
     have dW:=Cz U (i+8) c _ HU.out.1 HU.out.2.2.1 (by omega) HU.out.2.2.2;rw[ady (by rw[M0.out];omega),Rn.out,HE.out] at dW;obtain⟨p,hp⟩:∃p,p=i+8:=⟨_,rfl⟩;have Ju:p<17:=by omega
     have hpI:(i:Int)+8=(p:Int):=by omega
     rw[←hp] at dW;have HF:Hid ((U.set p c).length=17∧(∀t∈U.set p c,t<4294967296)∧NZ (U.set p c) (i+1+8)∧wu (U.set p c)=wu (X.take (i+1))*y):=ab ⟨by rw[List.length_set];exact HU.out.1,nT HU.out.2.1 hc p,(HU.out.2.2.1.mono (by omega)).set (by omega),dW⟩;have cN:=cf gT (k:=p) (by rw[HU.out.1];exact Ju);generalize U[p]'(by rw[HU.out.1];exact Ju)=tt at cN
     have zN:=dQ gT p;have GC:=ab gT;have Hg:=ab hg;clear dW gT hg gX gY hp;go_wp2_with fail;exact⟨⟨i+1,U.set p c,by omega,by go_num,HF,m7 GC.out,cC Hg.out _ _⟩,by simp only[intOf];omega⟩
  obtain rfl:i=8:=by omega
  have gM:=(hg.block (G+1+1) (cp GM.out) (by simp)).trans GM.out;have gO:=(hg.block (G+1+1+1) (cp GO.out) (by simp)).trans GO.out;have hv:wu T=x*y:=by rw[HT.out.2.2.2,ady (by rw[wO.out];omega),Rm.out]
  have HRd:∀W,Calls Tryz.prog 95 #[.agg (dB T).toArray,.agg (R8 mM)] W fun e W'=>e=.returned (.agg (R8 R))∧Below W.heap.size W W':=fun W=>by
   have:=sD hm T HT.out.1 HT.out.2.1 (by rw[hv];exact Jv Rp.out.1 Rp.out.2) W;rw[hv,←HR.out] at this;exact this
  have UJ:=ab HRd;have nn:=ab (EX HT.out.1);have Jm:Hid (Below w.heap.size w wr):=ab (qI.out.grown hg qI.out.size (fun _ h=>by cases h;rw[HG.out];omega));have GM1:=ab gM;have M1:=ab gO;have Uz:=ab gT;clear gM gO gT hg HRd;go_wp2_with (first|(refine adw rfl 143 (.tmp 7) rfl (G+1+1+1+1) rfl 143 (dB T).toArray (0,0) _ Uz.out Tryz.underlying143 rfl nn.out ?_)|(refine adw rfl 92 (.tmp 5) rfl (G+1+1) rfl 92 (R8 mM) (0,0) _ GM1.out Tryz.underlying92 rfl (aO _) ?_));refine(UJ.out _).mono ?_;rintro e w2 ⟨rfl,bS⟩;have zU:=ab ((bS.block (G+1+1+1) (cp M1.out)).trans M1.out);have Hb2:=ab (Jm.out.trans (bS.mono Jm.out.size));clear bS;go_wp2_with (first|(refine ado rfl 92 (.tmp 6) (.tmp 53) rfl (G+1+1+1) (R8 R) rfl rfl 92 _ zU.out (aO _) rfl (cR _) ?_));refine adm (v:=.agg (R8 R)) ?_ rfl ⟨rfl,au Hb2.out (by rw[HG.out];omega) _⟩;exact adr rfl _ _ (G+1+1+1) 92 (R8 R) (0,0) _ rfl (adt _ _ _ _ _ _ zU.out) Tryz.underlying92 rfl (aO _)
structure PowAt (mM:Nat) (w W:World) (G x e v:Nat):Prop where
 hG:w.heap.size≤G
 hb:Below w.heap.size w W
 rx:W.heap[G]?=some (.cells (R8 x) 92 (0,0))
 re:W.heap[G+1]?=some (.cells (R8 e) 92 (0,0))
 rm:W.heap[G+1+1]?=some (.cells (R8 mM) 92 (0,0))
 ro:W.heap[G+1+1+1]?=some (.cells (R8 0) 92 (0,0))
 rv:W.heap[G+1+1+1+1]?=some (.cells (R8 v) 92 (0,0))
theorem PowAt.below {mM:Nat} {w W W':World} {G x e v:Nat} (h:PowAt mM w W G x e v) (hb:Below W.heap.size W W'):PowAt mM w W' G x e v:=
 ⟨h.hG,h.hb.trans (hb.mono h.hb.size),(hb.block _ (cp h.rx)).trans h.rx,(hb.block _ (cp h.re)).trans h.re,(hb.block _ (cp h.rm)).trans h.rm,(hb.block _ (cp h.ro)).trans h.ro,(hb.block _ (cp h.rv)).trans h.rv⟩
theorem PowAt.setV {mM:Nat} {w W:World} {G x e v:Nat} (h:PowAt mM w W G x e v) (u:Nat):PowAt mM w (W.setRow (G+1+1+1+1) (R8 u)) G x e u:=
 ⟨h.hG,au h.hb (by have:=h.hG;omega) _,(setRow_other W _ G (R8 u) (by omega)).trans h.rx,(setRow_other W _ (G+1) (R8 u) (by omega)).trans h.re,(setRow_other W _ (G+1+1) (R8 u) (by omega)).trans h.rm,
  (setRow_other W _ (G+1+1+1) (R8 u) (by omega)).trans h.ro,adt _ _ _ _ _ _ h.rv⟩
theorem Jy {mM dM:Nat} (hm:RM mM dM) (x e:Nat):∀j,tm mM x e j<2^256
 |0=>by rw[tm];decide
 |j+1=>by
  have h1:∀n,n%mM<2^256:=fun n=>Nat.lt_trans (Nat.mod_lt _ hm.ne) hm.lt
  rw[tm];split
  · exact h1 _
  exact h1 _
theorem CB {mM dM:Nat} (hm:RM mM dM) (x e:Nat) (hx:x<2^256) (he:e<2^256) (w:World):
 Calls Tryz.prog 89 #[.agg (R8 x),.agg (R8 e),.agg (R8 mM)] w fun r W'=>r=.returned (.agg (R8 (pw mM x e)))∧Below w.heap.size w W':=by
 have Rs:R8 0=#[.int .u32 0,.int .u32 0,.int .u32 0,.int .u32 0,.int .u32 0,.int .u32 0,.int .u32 0,.int .u32 0]:=by kernel_rfl
 have hO8:R8 1=#[.int .u32 1,.int .u32 0,.int .u32 0,.int .u32 0,.int .u32 0,.int .u32 0,.int .u32 0,.int .u32 0]:=by kernel_rfl
 obtain⟨W0,bD⟩:∃W0,W0=((((w.alloc (.cells (R8 x) 92)).alloc (.cells (R8 e) 92)).alloc (.cells (R8 mM) 92)).alloc (.cells (R8 0) 92)).alloc (.cells (R8 1) 92):=⟨_,rfl⟩;have h5:=vq w (.cells (R8 x) 92) (.cells (R8 e) 92) (.cells (R8 mM) 92) (.cells (R8 0) 92) (.cells (R8 1) 92);have de:Below w.heap.size w W0:=by rw[bD];exact(((((adl _ w).alloc (adi _) _).alloc (by simp) _).alloc (by simp;omega) _).alloc (by simp;omega) _).alloc (by simp;omega) _
 rw[←bD] at h5;obtain⟨G,hG⟩:=ae w.heap.size;rw[←hG] at h5;have HA:Hid (PowAt mM w W0 G x e 1):=ab ⟨by omega,de,h5.1,h5.2.1,h5.2.2.1,h5.2.2.2.1,h5.2.2.2.2⟩;obtain⟨A,hA⟩:=ae (R8 x);obtain⟨B,hB⟩:=ae (R8 e);obtain⟨M,hM⟩:=ae (R8 mM);rw[←hA,←hB,←hM,Rs,hO8] at bD;rw[←hA,←hB,←hM];have wC:=ab bD;have HG:=ab hG;have Hx:=ab hx;have He:=ab he;clear hA hB hM Rs hO8 bD hG h5 de hx he;go_enter Tryz.func89,Tryz.ntmps89;go_wp2_with fail
 trace_state
 refine(show W0=_ from wC.out)▸?_;rw[←HG.out];go_loopw [8] (fun iv wr=>∃j:Nat,j≤256∧iv=.int .i64 (255-(j:Int))∧PowAt mM w wr G x e (tm mM x e j)) (fun iv _=>(intOf iv+1).toNat)
 case atStart=>exact⟨0,by omega,rfl,HA.out⟩
 case round=>
  obtain⟨j,hj,rfl,hP⟩:=hrel
  by_cases aV:j<256
  · obtain⟨k,hk⟩:∃k:Nat,(255:Int)-(j:Int)=(k:Int):=⟨255-j,by omega⟩
    have NJ:255-j=k:=by omega
    obtain⟨v,hv⟩:=ae (tm mM x e j);have Nb:v<2^256:=by rw[hv];exact Jy hm x e j
    have VA:v*v%mM<2^256:=Nat.lt_trans (Nat.mod_lt _ hm.ne) hm.lt;have tR:tm mM x e (j+1)=if e/2^k%2=1 then v*v%mM*x%mM else v*v%mM:=by rw[tm,NJ,hv]
    rw[←hv] at hP;obtain⟨s,hs⟩:∃s,s=v*v%mM:=⟨_,rfl⟩;rw[←hs] at VA tR;have af:=ab (fun W=>mj hm v v Nb Nb W);rw[←hs] at af;have iT:=ab (fun W=>mj hm s x VA Hx.out W);have HB:=ab (fun W=>Cx e k He.out (by omega) W);obtain⟨t,ht⟩:∃t,t=s*x%mM:=⟨_,rfl⟩;rw[←ht] at tR iT;have m6:=ab tR;have HP:=ab hP;rw[hk];clear Nb VA tR hv hs ht hP NJ;go_wp2_with (first|(refine adw rfl 92 (.tmp 7) rfl (G+1+1+1+1) rfl 92 (R8 v) (0,0) _ HP.out.rv Tryz.underlying92 rfl (aO _) ?_)|(refine adw rfl 92 (.tmp 5) rfl (G+1+1) rfl 92 (R8 mM) (0,0) _ HP.out.rm Tryz.underlying92 rfl (aO _) ?_));refine(af.out _).mono ?_;rintro r w2 ⟨rfl,bS⟩;have HP2:=ab (HP.out.below bS);have HP3:=ab (HP2.out.setV s);obtain⟨W3,qS⟩:=ae (w2.setRow (G+1+1+1+1) (R8 s));rw[←qS] at HP3;have Rr:=ab qS;clear bS qS HP af;go_wp2_with (first|(refine ado rfl 92 (.tmp 7) (.tmp 17) rfl (G+1+1+1+1) (R8 s) rfl rfl 92 _ HP2.out.rv (aO _) rfl (cR _) ?_;rw[←Rr.out])|(refine adw rfl 92 (.tmp 4) rfl (G+1) rfl 92 (R8 e) (0,0) _ HP3.out.re Tryz.underlying92 rfl (aO _) ?_));refine(HB.out _).mono ?_;rintro r w4 ⟨rfl,gg⟩;have Wc:=ab (HP3.out.below gg);clear gg HP2 HP3 Rr HB
    by_cases px:e/2^k%2=1
    · rw[adA px]
      have HN:Hid (tm mM x e (j+1)=t):=ab (by rw[m6.out,if_pos px]);clear px m6;go_wp2_with (first|(refine adw rfl 92 (.tmp 7) rfl (G+1+1+1+1) rfl 92 (R8 s) (0,0) _ Wc.out.rv Tryz.underlying92 rfl (aO _) ?_)|(refine adw rfl 92 (.tmp 3) rfl G rfl 92 (R8 x) (0,0) _ Wc.out.rx Tryz.underlying92 rfl (aO _) ?_)|(refine adw rfl 92 (.tmp 5) rfl (G+1+1) rfl 92 (R8 mM) (0,0) _ Wc.out.rm Tryz.underlying92 rfl (aO _) ?_));refine(iT.out _).mono ?_;rintro r w5 ⟨rfl,qk⟩;have HP5:=ab (Wc.out.below qk);clear qk Wc iT;go_wp2_with (first|(refine ado rfl 92 (.tmp 7) (.tmp 24) rfl (G+1+1+1+1) (R8 t) rfl rfl 92 _ HP5.out.rv (aO _) rfl (cR _) ?_));go_simp
      trace_state
      exact⟨⟨j+1,by omega,by omega,by rw[HN.out];exact HP5.out.setV t⟩,by simp only[intOf];omega⟩
    rw[adI px];have HN:Hid (tm mM x e (j+1)=s):=ab (by rw[m6.out,if_neg px]);clear px m6 iT;go_wp2_with fail;go_simp
    trace_state
    exact⟨⟨j+1,by omega,by omega,by rw[HN.out];exact Wc.out⟩,by simp only[intOf];omega⟩
  obtain rfl:j=256:=by omega
  rw[show (255:Int)-((256:Nat):Int)=-1 from rfl];obtain⟨R,hR⟩:=ae (tm mM x e 256);have HR:Hid (pw mM x e=R):=ab (by rw[pw,hR]);rw[←hR] at hP;have HP:=ab hP;clear hP hR;go_wp2_with (first|(refine adw rfl 92 (.tmp 7) rfl (G+1+1+1+1) rfl 92 (R8 R) (0,0) _ HP.out.rv Tryz.underlying92 rfl (aO _) ?_)|(refine ado rfl 92 (.tmp 6) (.tmp 25) rfl (G+1+1+1) (R8 R) rfl rfl 92 _ HP.out.ro (aO _) rfl (cR _) ?_));refine adm (v:=.agg (R8 R)) ?_ rfl ⟨by rw[HR.out],au HP.out.hb (by have:=HP.out.hG;omega) _⟩;exact adr rfl _ _ (G+1+1+1) 92 (R8 R) (0,0) _ rfl (adt _ _ _ _ _ _ HP.out.ro) Tryz.underlying92 rfl (aO _)
def wP (D:List UInt8) (n i:Nat):List UInt8:=D.take i++List.replicate (n-i) 0
theorem pF (D:List UInt8) (n i:Nat) (h:i≤n) (hD:n≤D.length):(wP D n i).length=n:=by simp[wP];omega
theorem zr (D:List UInt8) (n i:Nat) (h:i<n) (hD:i<D.length):(wP D n i).set i D[i]=wP D n (i+1):=by
 have hl:(D.take i).length=i:=by simp;omega
 rw[wP,List.set_append_right _ _ (by omega),hl,Nat.sub_self,show n-i=(n-(i+1))+1 by omega,List.replicate_succ,List.set_cons_zero,wP,adK hD,List.append_assoc];rfl
theorem CC (D:List UInt8) (n:Nat) (h:n=D.length):wP D n n=D:=by simp[wP,h]
theorem vr (D:List UInt8) (n:Nat):wP D n 0=List.replicate n 0:=by simp[wP]
theorem UK (l:List UInt8) (i:Nat) (v:UInt8):(B8 l).toArray.setIfInBounds i (.int .u8 (v.toNat:Int))=(B8 (l.set i v)).toArray:=by
 apply Array.ext';simp[B8,List.map_set]
theorem aab {w:World} {g t k:Nat} {l:List UInt8} {v:UInt8} (h:w.heap[g]?=some (.cells (B8 l).toArray t (0,0))):(w.setCell ⟨g,k,none⟩ (.int .u8 (v.toNat:Int))).heap[g]?=some (.cells (B8 (l.set k v)).toArray t (0,0)):=by
 rw[heap_setCell_same w g k _ _ _ h,UK]
theorem EZ {w:World} {g t k:Nat} {l:List UInt8} (h:w.heap[g]?=some (.cells (B8 l).toArray t (0,0))) (hk:k<l.length):w.cell? ⟨g,k,none⟩=some (.int .u8 (l[k].toNat:Int)):=by
 rw[adn _ _ _ _ _ (0,0) h];simp[B8,hk]
theorem P0:(Tryz.prog.info? 24).map (·.size)=some 32:=by kernel_rfl
theorem P1 {l:List UInt8} (h:l.length=32):(Tryz.prog.info? 24).map (·.size)=some (B8 l).toArray.size:=by
 have:(B8 l).toArray.size=32:=by simp[h]
 rw[this];exact P0
theorem UL (l:List UInt8):(B8 l).toArray.all (·.oneCell')=true:=by simp[B8];intro x _;rfl
theorem CD (k:HKey) (hk:k.Ok) (w:World):
 Calls Tryz.prog 57 #[.agg (aW k).toArray] w fun e W'=>e=.returned (.agg (B8 (k.data.drop 1)).toArray)∧Below w.heap.size w W':=by
 obtain⟨cs,eA⟩:∃cs,cs=(aW k).toArray:=⟨_,rfl⟩;have aS:=fun (W:World) (g:Nat) (h:W.heap[g]?=some (.cells (aW k).toArray 34 (0,0)))=>gx hk h
 rw[←eA] at aS⊢;obtain⟨D,hD⟩:=ae (k.data.drop 1);have yV:D.length=32:=by rw[hD,adH,hk.data]
 have qU:=ab yV;rw[←hD]
 have hcD:∀(W:World) (g:Nat),W.heap[g]?=some (.cells cs 34 (0,0))→∀j (hj:j<D.length),W.cell? ⟨g,38+(j+1),none⟩=some (.int .u8 (D[j].toNat:Int)):=fun W g h j hj=>by
  subst hD;have zB:j+1<k.data.length:=by rw[adH] at hj;omega
  rw[aS W g h (j+1) zB];simp[Nat.add_comm]
 have lZ:cs.size=71:=by rw[eA];simp[bO hk]
 have h3:=jm (w.alloc (.cells cs 34)) (.cells (B8 (List.replicate 32 0)).toArray 24) (.cells (B8 (List.replicate 32 0)).toArray 24);obtain⟨W0,bD⟩:∃W0,W0=((w.alloc (.cells cs 34)).alloc (.cells (B8 (List.replicate 32 0)).toArray 24)).alloc (.cells (B8 (List.replicate 32 0)).toArray 24):=⟨_,rfl⟩;have Rb:W0.heap[w.heap.size]?=some (.cells cs 34 (0,0)):=by rw[bD];exact dU (dU (adk w _))
 rw[←bD,adD] at h3;have de:Below w.heap.size w W0:=by rw[bD];exact(((adl _ w).alloc (adi _) _).alloc (by simp) _).alloc (by simp;omega) _
 obtain⟨G,hG⟩:=ae w.heap.size;rw[←hG] at Rb h3;have hz:(B8 (List.replicate 32 0)).toArray=L8:=by kernel_rfl
 rw[hz] at bD;unfold L8 at bD;have wC:=ab bD;have HG:=ab hG;have GK:=ab Rb;have GO:=ab h3.1;have GX:=ab h3.2;have HcD:=ab hcD;have qI:=ab de;clear eA aS hD yV hcD lZ h3 bD Rb de hG hz;go_enter Tryz.func57,Tryz.ntmps57;go_wp2_with (refine wpList_boxTo rfl 34 (.tmp 0) rfl _ rfl w.heap.size rfl cs rfl ?_)
 trace_state
 refine(show W0=_ from wC.out)▸?_;rw[←HG.out];go_loopw [4] (fun iv wr=>∃i:Nat,i≤32∧iv=.int .i64 i∧wr.heap[G+1+1]?=some (.cells (B8 (wP D 32 i)).toArray 24 (0,0))∧W0.grownBy wr (some (G+1+1))) (fun iv _=>32-(intOf iv).toNat)
 case atStart=>exact⟨0,by omega,rfl,by rw[vr];exact GX.out,dh _ _⟩
 case round=>
  obtain⟨i,hi,rfl,gX,hg⟩:=hrel;have gK:=(hg.block G (cp GK.out) (by simp;omega)).trans GK.out
  by_cases aV:i<32
  · have hiD:i<D.length:=by rw[qU.out];exact aV
    have cD:=HcD.out wr G gK i hiD;obtain⟨y,hy⟩:∃y,y=D[i]:=⟨_,rfl⟩;rw[←hy] at cD;have rJ:Hid ((wP D 32 i).set i y=wP D 32 (i+1)):=ab (by rw[hy];exact zr D 32 i aV hiD);have tg:i<(wP D 32 i).length:=by rw[pF D 32 i (by omega) (by rw[qU.out];exact adi _)];exact aV
    have cX:=EZ gX tg;generalize (wP D 32 i)[i]=u at cX;have zX:=dQ gX i;have GC:=ab gX;have Hg:=ab hg;clear hy hiD tg gX hg gK;go_wp2_with fail
    trace_state
    exact⟨⟨i+1,by omega,by go_num,by rw[←rJ.out];exact aab GC.out,cC Hg.out _ _⟩,by simp only[intOf];omega⟩
  obtain rfl:i=32:=by omega
  rw[CC D 32 qU.out.symm] at gX;have GC:=ab gX;have zU:=ab ((hg.block (G+1) (cp GO.out) (by simp)).trans GO.out);have Hb2:=ab (qI.out.grown hg qI.out.size (fun _ h=>by cases h;have:=HG.out;omega));have YQ:=ab (P1 qU.out);clear gX hg gK;go_wp2_with (first|(refine adw rfl 24 (.tmp 3) rfl (G+1+1) rfl 24 (B8 D).toArray (0,0) _ GC.out Tryz.underlying24 rfl YQ.out ?_)|(refine ado rfl 24 (.tmp 2) (.tmp 16) rfl (G+1) (B8 D).toArray rfl rfl 24 _ zU.out YQ.out (by simp[qU.out]) (UL _) ?_));refine adm (v:=.agg (B8 D).toArray) ?_ rfl ⟨rfl,au Hb2.out (by have:=HG.out;omega) _⟩;exact adr rfl _ _ (G+1) 24 (B8 D).toArray (0,0) _ rfl (adt _ _ _ _ _ _ zU.out) Tryz.underlying24 rfl YQ.out
theorem dS {k:HKey} (h:k.Ok):(Tryz.prog.info? 34).map (·.size)=some (aW k).toArray.size:=by
 rw[List.size_toArray,bO h];kernel_rfl
theorem gy {o:Oper} (ho:o.op=.alloc 34) (ρ:Operand→Value) (W:World):(execOp ρ o).run Tryz.prog W=.ok (.value (.pointer (some ⟨W.heap.size,0,none⟩))) (W.alloc (.cells (aW aP).toArray 34)):=by
 unfold execOp;rw[ho];go_simp;rfl
theorem r8:Tryz.prog.built 34 []=some (aW aP).toArray:=by kernel_rfl
theorem Gn (l:List UInt8) (i:Nat) (v:UInt8):(B8 l).set i (.int .u8 (v.toNat:Int))=B8 (l.set i v):=by simp[B8,List.map_set]
theorem zt {k:HKey} (hk:k.Ok) (j:Nat) (v:UInt8):(aW k).set (38+j) (.int .u8 (v.toNat:Int))=aW { k with data:=k.data.set j v }:=by
 have h1:(B8 k.finger).length=4:=by rw[B8_length,hk.finger]
 have h2:(B8 k.chain).length=32:=by rw[B8_length,hk.chain]
 have e:∀d,aW { k with data:=d }=(.int .u8 (k.depth.toNat:Int)::(B8 k.finger++ .int .u32 (k.child:Int)::B8 k.chain))++B8 d:=fun d=>by simp[aW]
 have hl:(Value.int .u8 (k.depth.toNat:Int)::(B8 k.finger++ .int .u32 (k.child:Int)::B8 k.chain)).length=38:=by simp only[adz,adv,h1,h2]
 rw[show aW k=_ from e k.data,e,List.set_append_right _ _ (by rw[hl];omega),hl,Nat.add_sub_cancel_left,Gn]
theorem wQ {k:HKey} (hk:k.Ok) (j:Nat) (hj:j<32) (v:UInt8):(aW k).set (6+j) (.int .u8 (v.toNat:Int))=aW { k with chain:=k.chain.set j v }:=by
 have h1:(B8 k.finger).length=4:=by rw[B8_length,hk.finger]
 have h2:(B8 k.chain).length=32:=by rw[B8_length,hk.chain]
 have e:∀d,aW { k with chain:=d }=(.int .u8 (k.depth.toNat:Int)::(B8 k.finger++[.int .u32 (k.child:Int)]))++(B8 d++B8 k.data):=fun d=>by simp[aW]
 have hl:(Value.int .u8 (k.depth.toNat:Int)::(B8 k.finger++[Value.int .u32 (k.child:Int)])).length=6:=by simp only[adz,adv,h1,List.length_nil]
 rw[show aW k=_ from e k.chain,e,List.set_append_right _ _ (by rw[hl];omega),hl,Nat.add_sub_cancel_left,List.set_append_left _ _ (by rw[h2];exact hj),Gn]
def lB (h:List UInt8) (i:Nat):HKey:=⟨0,[0,0,0,0],0,wP (h.drop 32) 32 i,0::wP h 32 i⟩
theorem CE {h:List UInt8} (hl:h.length=64) {i:Nat} (hi:i≤32):(lB h i).Ok:=⟨rfl,pF _ _ _ hi (by simp[hl]),by simp[lB,pF h 32 i hi (by omega)],Nat.zero_lt_succ _⟩
theorem E0 (h:List UInt8):lB h 0=aP:=by rw[lB,vr,vr];rfl
theorem Jz {h:List UInt8} (hl:h.length=64):lB h 32=ls h:=by
 rw[lB,CC _ _ (by simp[hl]),wP];simp[ls]
theorem JA {h:List UInt8} (hl:h.length=64) {i:Nat} (hi:i<32):((aW (lB h i)).set (38+(i+1)) (.int .u8 ((h[i]'(by omega)).toNat:Int))).set (6+i) (.int .u8 ((h[32+i]'(by omega)).toNat:Int))=aW (lB h (i+1)):=by
 have qJ:=CE hl (Nat.le_of_lt hi);rw[zt qJ];refine(wQ (k:={ lB h i with data:=(lB h i).data.set (i+1) (h[i]'(by omega)) }) ⟨qJ.finger,qJ.chain,by rw[List.length_set];exact qJ.data,qJ.child⟩ i hi _).trans ?_
 congr 1
 have e1:(lB h i).data.set (i+1) (h[i]'(by omega))=0::wP h 32 (i+1):=by
  show (0::wP h 32 i).set (i+1) _=_;rw[List.set_cons_succ,zr h 32 i hi (by omega)]
 have e2:(lB h i).chain.set i (h[32+i]'(by omega))=wP (h.drop 32) 32 (i+1):=by
  have:=zr (h.drop 32) 32 i hi (by simp[hl];omega);rw[List.getElem_drop] at this;exact this
 show HKey.mk _ _ _ _ _=HKey.mk _ _ _ _ _;rw[e1];congr 1
theorem E3 (k:HKey) (hk:k.Ok) (t:List UInt8) (hd:k.data=0::t) (w:World):Calls Tryz.prog 18 #[.agg (aW k).toArray] w fun e W'=>e=.returned (.bool (dE t))∧Below w.heap.size w W':=by
 have HM:=ab (Mem.start w);have QT:k.data.drop 1=t:=by rw[hd];rfl
 have xa:t.length=32:=by rw[←QT];simp[hk.data]
 have vF:=ab (fun W=>CD k hk W);rw[QT] at vF;have qF:bB t<2^256:=ads (fV t) (by rw[xa];decide);have HKey:=ab (fun W=>vl (bB t) qF W);have Hof:=ab (fun (A:Option Addr) (c:Nat) (W:World) (hs:Sl W W.heap.size A (B8 t))=>vm A c t xa W hs)
 have lP:∀(W:World) (g tt:Nat),W.heap[g]?=some (.cells (aW k).toArray tt (0,0))→W.cell? ⟨g,38,none⟩=some (.int .u8 0):=fun W g tt h=>by
  have h1:=gx hk h 0 (by rw[hk.data];decide);rw[h1];simp[hd]
 rw[dE];obtain⟨b,hb⟩:∃b,b=(decide (bB t≠0)&&decide (bB t<ar)):=⟨_,rfl⟩;rw[←hb] at HKey⊢;obtain⟨x,hx⟩:=ae (bB t);rw[←hx] at HKey Hof;have Hk:=ab hk;have HC0:=ab lP;have HT:=ab xa;clear hk hd QT xa qF lP hb hx;go_enter Tryz.func18,Tryz.ntmps18;go_upto_region 1 with (first|(show wpList _ _ _ (⟨some 1,_,_,_,_,_⟩::_) _ _;refine ag 0 [(0,5),(1,0)] rfl (by kernel_rfl) ?_)|(show ai _ _ _ _ _ _ ((_,5)::_) _;refine bh HM.out rfl rfl _ _ rfl rfl (by kernel_rfl) rfl ?_;intro W gN af;replace HM:=ab af;clear af)|(show ai _ _ _ _ _ _ ((_,0)::_) _;refine aj rfl rfl rfl (by kernel_rfl) _ (.inr rfl) (v:=.bool _) rfl ?_)|(show ai _ _ _ _ _ _ [] _;refine ay (fun K hK=>?_);simp only[aG];go_simp;refine hK _ ?_;clear hK K));have c0:=HC0.out _ _ _ (HM.out.at_ 0 rfl);go_wp2_with (first|(show wpList _ _ _ (⟨some 10,_,_,_,_,_⟩::_) _ _;refine ag 0 [(0,1),(1,4),(2,6),(3,3)] rfl (by kernel_rfl) ?_)|(show wpList _ _ _ (⟨some 12,_,_,_,_,_⟩::_) _ _;refine ag 0 [(0,0),(1,4),(2,4),(3,0)] rfl (by kernel_rfl) ?_)|(show ai _ _ _ _ _ _ ((_,6)::_) _;refine aq HM.out rfl rfl rfl (by kernel_rfl) (fG rfl) ?_;intro W gN af;replace HM:=ab af;clear af)|(show ai _ _ _ _ _ _ ((_,1)::_) _;refine az rfl rfl rfl (by kernel_rfl) 34 _ rfl rfl Tryz.underlying34 rfl (t:=34) (by first|exact HM.out.at_ 0 rfl) (dS Hk.out) ?_)|((first|(show ai _ _ _ _ _ _ ((_,4)::_) _;refine aw (f:=57) HM.out rfl rfl rfl rfl ?_));refine⟨_,_,Tryz.func57,by kernel_rfl,by kernel_rfl,by kernel_rfl,fun W hW=>vF.out _,?_⟩;try (intro W af;replace HM:=ab af;clear af))|(show ai _ _ _ _ _ _ ((_,3)::_) _;refine an HM.out 24 _ _ rfl rfl ?_;(first|(refine⟨0,_,_,_,_,rfl,rfl,rfl,rfl,rfl,(dX HT.out),(cS (by rw[HT.out];rfl)),(bK _),?_⟩));intro W af;simp only[adj,adh,List.set_cons_zero,List.set_cons_succ] at af;replace HM:=ab af;clear af)|(show ai _ _ _ _ _ _ ((_,0)::_) _;refine ca rfl rfl rfl (by kernel_rfl) _ _ rfl rfl mb ?_)|((first|(show ai _ _ _ _ _ _ ((_,4)::_) _;refine aw (f:=43) HM.out rfl rfl rfl rfl ?_));refine⟨_,_,Tryz.func43,by kernel_rfl,by kernel_rfl,by kernel_rfl,fun W hW=>Hof.out _ _ _ (fE ((HM.out.ext hW).at_ 0 rfl)),?_⟩;try (intro W af;replace HM:=ab af;clear af))|((first|(show ai _ _ _ _ _ _ ((_,4)::_) _;refine aw (f:=44) HM.out rfl rfl rfl rfl ?_));refine⟨_,_,Tryz.func44,by kernel_rfl,by kernel_rfl,by kernel_rfl,fun W hW=>HKey.out _,?_⟩;try (intro W af;replace HM:=ab af;clear af))|(show ai _ _ _ _ _ _ ((_,0)::_) _;refine aj rfl rfl rfl (by kernel_rfl) _ (.inr rfl) (v:=.bool _) rfl ?_)|(show ai _ _ _ _ _ _ [] _;refine ay (fun K hK=>?_);simp only[aG];go_simp;refine hK _ ?_;clear hK K));go_ret;exact⟨rfl,HM.out.hb⟩
theorem sE (A:Option Addr) (c:Nat) (s:List UInt8) (w:World) (hs:Sl w w.heap.size A (B8 s)):Calls Tryz.prog 5 #[.slice A s.length c] w fun e W'=>e=.returned (.tuple #[.agg (aW (bQ s).2).toArray,.int .i64 ((bQ s).1:Nat)])∧Below w.heap.size w W':=by
 have HM:=ab (Mem.start w)
 by_cases h1:s.length<16∨64<s.length
 · have e:bQ s=(2,aP):=by rw[bQ,if_pos h1]
   rw[e];clear hs e;obtain⟨n,hn⟩:=ae s.length;rw[←hn] at h1⊢
   by_cases h2:n<16
   · go_enter Tryz.func5,Tryz.ntmps5
     go_wp2_with (first|(show wpList _ _ _ (⟨some 2,_,_,_,_,_⟩::_) _ _;refine ag 0 [(0,6),(1,0)] rfl (by kernel_rfl) ?_)|(show wpList _ _ _ (⟨some 15,_,_,_,_,_⟩::_) _ _;refine ag 0 [(0,0),(1,3),(2,0)] rfl (by kernel_rfl) ?_)|(show ai _ _ _ _ _ _ ((_,6)::_) _;refine aq HM.out rfl rfl rfl (by kernel_rfl) (gy rfl) ?_;intro W gN af;replace HM:=ab af;clear af)|(show ai _ _ _ _ _ _ ((_,0)::_) _;refine aj rfl rfl rfl (by kernel_rfl) _ (.inr rfl) (v:=.int _ _) rfl ?_)|(show ai _ _ _ _ _ _ ((_,0)::_) _;refine aM rfl rfl rfl (by kernel_rfl) 34 _ rfl r8 rfl ?_)|(show ai _ _ _ _ _ _ ((_,3)::_) _;refine an HM.out 34 _ _ rfl rfl ?_;(first|(refine⟨0,_,_,_,_,rfl,rfl,rfl,rfl,rfl,(dS aC),(bt aC aC),(bf _),?_⟩));intro W af;simp only[adj,adh,List.set_cons_zero,List.set_cons_succ] at af;replace HM:=ab af;clear af)|(show ai _ _ _ _ _ _ [] _;refine ay (fun K hK=>?_);simp only[aG];go_simp;refine hK _ ?_;clear hK K));exact adm (aA rfl _ _ _ _ _ (0,0) _ rfl (HM.out.at_ 0 rfl) _ rfl Tryz.underlying34 rfl (dS aC)) rfl ⟨rfl,HM.out.hb⟩
   have h3:64<n:=by omega
   go_enter Tryz.func5,Tryz.ntmps5;go_wp2_with (first|(show wpList _ _ _ (⟨some 2,_,_,_,_,_⟩::_) _ _;refine ag 0 [(0,6),(1,0)] rfl (by kernel_rfl) ?_)|(show wpList _ _ _ (⟨some 15,_,_,_,_,_⟩::_) _ _;refine ag 0 [(0,0),(1,3),(2,0)] rfl (by kernel_rfl) ?_)|(show ai _ _ _ _ _ _ ((_,6)::_) _;refine aq HM.out rfl rfl rfl (by kernel_rfl) (gy rfl) ?_;intro W gN af;replace HM:=ab af;clear af)|(show ai _ _ _ _ _ _ ((_,0)::_) _;refine aj rfl rfl rfl (by kernel_rfl) _ (.inr rfl) (v:=.int _ _) rfl ?_)|(show ai _ _ _ _ _ _ ((_,0)::_) _;refine aM rfl rfl rfl (by kernel_rfl) 34 _ rfl r8 rfl ?_)|(show ai _ _ _ _ _ _ ((_,3)::_) _;refine an HM.out 34 _ _ rfl rfl ?_;(first|(refine⟨0,_,_,_,_,rfl,rfl,rfl,rfl,rfl,(dS aC),(bt aC aC),(bf _),?_⟩));intro W af;simp only[adj,adh,List.set_cons_zero,List.set_cons_succ] at af;replace HM:=ab af;clear af)|(show ai _ _ _ _ _ _ [] _;refine ay (fun K hK=>?_);simp only[aG];go_simp;refine hK _ ?_;clear hK K));exact adm (aA rfl _ _ _ _ _ (0,0) _ rfl (HM.out.at_ 0 rfl) _ rfl Tryz.underlying34 rfl (dS aC)) rfl ⟨rfl,HM.out.hb⟩
 have h2:¬s.length<16:=fun h=>h1 (.inl h)
 have h3:¬64<s.length:=fun h=>h1 (.inr h)
 obtain⟨h,hh⟩:=ae (bF sC s);have e:bQ s=if dE (h.take 32) then (0,ls h) else (1,aP):=by rw[bQ,if_neg h1,hh]
 rw[e];have hl:h.length=64:=by rw[hh,dK]
 have ML:=ab (fun W=>E3 (ls h) (nN hl) (h.take 32) rfl W);have Hh:=ab hh;have Hl:=ab hl;have Hs:=ab hs;have PJ:=ab (Jz hl);obtain⟨rk,Ua⟩:=ae (ls h);have m5:Hid (rk.Ok):=ab (by rw[Ua];exact nN hl);rw[←Ua] at ML PJ⊢;clear hh hl hs e Ua h1;obtain⟨b,hb⟩:=ae (dE (h.take 32));rw[←hb] at ML⊢;clear hb;go_enter Tryz.func5,Tryz.ntmps5;go_upto_region 3 with (first|(show wpList _ _ _ (⟨some 2,_,_,_,_,_⟩::_) _ _;refine ag 0 [(0,6),(1,0)] rfl (by kernel_rfl) ?_)|(show ai _ _ _ _ _ _ ((_,6)::_) _;refine aq HM.out rfl rfl rfl (by kernel_rfl) (gy rfl) ?_;intro W gN af;replace HM:=ab af;clear af)|(show ai _ _ _ _ _ _ ((_,0)::_) _;refine aj rfl rfl rfl (by kernel_rfl) _ (.inr rfl) (v:=.int _ _) rfl ?_)|(show ai _ _ _ _ _ _ [] _;refine ay (fun K hK=>?_);simp only[aG];go_simp;refine hK _ ?_;clear hK K));have kc:=fun (w:World) (C:Array Value) (n c:Nat)=>Lib.run_convert_bytes_const (P:=Tryz.prog) w 22 5 C n c Tryz.underlying22 (by kernel_rfl)
 go_wp2_with fail;refine(Jj _ A _ c sC s (by decide) (by decide) (by omega) _ (rZ (bs:=sC) (t:=5) (fr:=(12,13)) (adk W _)) (Hs.out.ext (av (HM.out.hb.alloc HM.out.hb.size _)))).mono ?_;rintro e W1 ⟨rfl,bH⟩;rw[←Hh.out];have af:=HM.out.below (((adl _ W).alloc (adi _) _).trans (bH.mono (by simp)));replace HM:=ab af;clear af bH kc;go_upto_region 5 with (first|(show wpList _ _ _ (⟨some 4,_,_,_,_,_⟩::_) _ _;refine ag 4 [(4,6),(5,3)] rfl (by kernel_rfl) ?_)|(show wpList _ _ _ (⟨some 5,_,_,_,_,_⟩::_) _ _;refine ag 0 [(0,6)] rfl (by kernel_rfl) ?_)|(show ai _ _ _ _ _ _ ((_,6)::_) _;refine aq HM.out rfl rfl rfl (by kernel_rfl) (gy rfl) ?_;intro W gN af;replace HM:=ab af;clear af)|(show ai _ _ _ _ _ _ ((_,6)::_) _;refine aq HM.out rfl rfl rfl (by kernel_rfl) (ey rfl) ?_;intro W gN af;replace HM:=ab af;clear af)|(show ai _ _ _ _ _ _ ((_,3)::_) _;refine an HM.out 45 _ _ rfl rfl ?_;(first|(refine⟨0,_,_,_,_,rfl,rfl,rfl,rfl,rfl,(fS Hl.out),(cS (by rw[Hl.out];rfl)),(bK _),?_⟩));intro W af;simp only[adj,adh,List.set_cons_zero,List.set_cons_succ] at af;replace HM:=ab af;clear af)|(show ai _ _ _ _ _ _ [] _;refine ay (fun K hK=>?_);simp only[aG];go_simp;refine hK _ ?_;clear hK K));rename_i gR _ _ _ gH _ _ _ _ _;obtain⟨gK,Rb⟩:∃g,g=gN:=⟨_,rfl⟩;rw[←Rb] at HM;simp only[←Rb];clear Rb;have PB:Hid (Mem w _ [(gK,34,(aW (lB h 0)).toArray),(gH,45,(B8 h).toArray),(gR,34,(aW aP).toArray)]):=ab (by rw[E0];exact HM.out);have bN:gK≠gH:=(List.pairwise_cons.1 HM.out.ne).1 _ (.head _);clear HM;have HM:=PB;clear PB;go_wp2_with fail;go_loopw [6] (fun i wr=>∃k:Nat,k≤32∧i=.int .i64 k∧Hid (Mem w wr [(gK,34,(aW (lB h k)).toArray),(gH,45,(B8 h).toArray),(gR,34,(aW aP).toArray)])) (fun i _=>32-(intOf i).toNat)
 case atStart=>exact⟨0,adF _,rfl,HM⟩
 case round=>
  clear HM;obtain⟨k,aac,rfl,HM⟩:=hrel
  by_cases aV:k<32
  · have dg:=JA Hl.out aV
    have qJ:=CE Hl.out aac;have c1:=EZ (k:=k) (HM.out.at_ 1 rfl) (by rw[Hl.out];omega);have c2:=EZ (k:=32+k) (HM.out.at_ 1 rfl) (by rw[Hl.out];omega);generalize h[k]'(by rw[Hl.out];omega)=x at c1 dg
    generalize h[32+k]'(by rw[Hl.out];omega)=y at c2 dg
    have f1:=frozen_of_row wr gK (38+(k+1)) _ _ (HM.out.at_ 0 rfl);have f2:=frozen_of_row wr gK (6+k) _ _ (HM.out.at_ 0 rfl);obtain⟨u,hu⟩:∃u,wr.cell? ⟨gK,38+(k+1),none⟩=some u:=⟨_,dL (HM.out.at_ 0 rfl) (adp (by rw[bO qJ];omega))⟩;obtain⟨v,hv⟩:∃v,wr.cell? ⟨gK,6+k,none⟩=some v:=⟨_,dL (HM.out.at_ 0 rfl) (adp (by rw[bO qJ];omega))⟩;have rJ:=ab dg;clear dg qJ;go_wp2_with fail;have iT:=(HM.out.setD 0 rfl (38+(k+1)) (.int .u8 (x.toNat:Int))).setD 0 rfl (6+k) (.int .u8 (y.toNat:Int));simp only[List.set_cons_zero,List.set_cons_succ] at iT;rw[rJ.out] at iT;exact⟨⟨k+1,by omega,rfl,ab iT⟩,by simp[intOf];omega⟩
  obtain rfl:k=32:=by omega
  rw[PJ.out] at HM;clear aV aac;go_upto_region 10 with fail
  cases b
  · go_wp2_with (first|(show wpList _ _ _ (⟨some 38,_,_,_,_,_⟩::_) _ _;refine ag 0 [(0,1),(1,4),(2,0)] rfl (by kernel_rfl) ?_)|(show wpList _ _ _ (⟨some 41,_,_,_,_,_⟩::_) _ _;refine ag 0 [(0,0),(1,3),(2,0)] rfl (by kernel_rfl) ?_)|(show ai _ _ _ _ _ _ ((_,1)::_) _;refine az rfl rfl rfl (by kernel_rfl) 34 _ rfl rfl Tryz.underlying34 rfl (t:=34) (by first|exact HM.out.at_ 0 rfl) (dS m5.out) ?_)|((first|(show ai _ _ _ _ _ _ ((_,4)::_) _;refine aw (f:=18) HM.out rfl rfl rfl rfl ?_));refine⟨_,_,Tryz.func18,by kernel_rfl,by kernel_rfl,by kernel_rfl,fun W hW=>ML.out _,?_⟩;try (intro W af;replace HM:=ab af;clear af))|(show ai _ _ _ _ _ _ ((_,0)::_) _;refine aj rfl rfl rfl (by kernel_rfl) _ (.inr rfl) (v:=.int _ _) rfl ?_)|(show ai _ _ _ _ _ _ ((_,0)::_) _;refine fD rfl rfl rfl (by kernel_rfl) _ _ rfl rfl ?_)|(show ai _ _ _ _ _ _ ((_,0)::_) _;refine aM rfl rfl rfl (by kernel_rfl) 34 _ rfl r8 rfl ?_)|(show ai _ _ _ _ _ _ ((_,3)::_) _;refine an HM.out 34 _ _ rfl rfl ?_;(first|(refine⟨2,_,_,_,_,rfl,rfl,rfl,rfl,rfl,(dS aC),(bt aC aC),(bf _),?_⟩) );intro W af;simp only[adj,adh,List.set_cons_zero,List.set_cons_succ] at af;replace HM:=ab af;clear af)|(show ai _ _ _ _ _ _ [] _;refine ay (fun K hK=>?_);simp only[aG];go_simp;refine hK _ ?_;clear hK K))
    exact adm (aA rfl _ _ _ _ _ (0,0) _ rfl (HM.out.at_ 2 rfl) _ rfl Tryz.underlying34 rfl (dS aC)) rfl ⟨rfl,HM.out.hb⟩
  go_wp2_with (first|(show wpList _ _ _ (⟨some 38,_,_,_,_,_⟩::_) _ _;refine ag 0 [(0,1),(1,4),(2,0)] rfl (by kernel_rfl) ?_)|(show wpList _ _ _ (⟨some 42,_,_,_,_,_⟩::_) _ _;refine ag 0 [(0,1),(1,3),(2,0)] rfl (by kernel_rfl) ?_)|(show ai _ _ _ _ _ _ ((_,1)::_) _;refine az rfl rfl rfl (by kernel_rfl) 34 _ rfl rfl Tryz.underlying34 rfl (t:=34) (by first|exact HM.out.at_ 0 rfl) (dS m5.out) ?_)|((first|(show ai _ _ _ _ _ _ ((_,4)::_) _;refine aw (f:=18) HM.out rfl rfl rfl rfl ?_));refine⟨_,_,Tryz.func18,by kernel_rfl,by kernel_rfl,by kernel_rfl,fun W hW=>ML.out _,?_⟩;try (intro W af;replace HM:=ab af;clear af))|(show ai _ _ _ _ _ _ ((_,0)::_) _;refine aj rfl rfl rfl (by kernel_rfl) _ (.inr rfl) (v:=.int _ _) rfl ?_)|(show ai _ _ _ _ _ _ ((_,0)::_) _;refine fD rfl rfl rfl (by kernel_rfl) _ _ rfl rfl ?_)|(show ai _ _ _ _ _ _ ((_,3)::_) _;refine an HM.out 34 _ _ rfl rfl ?_;(first|(refine⟨2,_,_,_,_,rfl,rfl,rfl,rfl,rfl,(dS m5.out),(bt aC m5.out),(bf _),?_⟩) );intro W af;simp only[adj,adh,List.set_cons_zero,List.set_cons_succ] at af;replace HM:=ab af;clear af)|(show ai _ _ _ _ _ _ [] _;refine ay (fun K hK=>?_);simp only[aG];go_simp;refine hK _ ?_;clear hK K));exact adm (aA rfl _ _ _ _ _ (0,0) _ rfl (HM.out.at_ 2 rfl) _ rfl Tryz.underlying34 rfl (dS m5.out)) rfl ⟨rfl,HM.out.hb⟩
theorem Ng {mM dM:Nat} (hm:RM mM dM) (x y:Nat) (hx:x<2^256) (hy:y<2^256) (w:World):
 Calls Tryz.prog 92 #[.agg (R8 x),.agg (R8 y),.agg (R8 mM)] w fun e W'=>e=.returned (.agg (R8 ((x+y)%mM)))∧Below w.heap.size w W':=by
 have bx:Tryz.prog.follows .mixedOrders=true:=by kernel_rfl
 obtain⟨R,hR⟩:∃R,R=(x+y)%mM:=⟨_,rfl⟩;rw[←hR];obtain⟨X,hX⟩:=ae (nu 8 x);obtain⟨Y,hY⟩:=ae (nu 8 y);have wO:Hid (X.length=8):=ab (by rw[hX,bg]);have M0:Hid (Y.length=8):=ab (by rw[hY,bg]);have Ux:Hid (∀t∈X,t<4294967296):=ab (by rw[hX];exact nR 8 x);have Uy:Hid (∀t∈Y,t<4294967296):=ab (by rw[hY];exact nR 8 y);have Rm:Hid (wu X=x):=ab (by rw[hX];exact lA 8 x hx);have Rn:Hid (wu Y=y):=ab (by rw[hY];exact lA 8 y hy);have Rp:Hid (x<2^256∧y<2^256):=ab ⟨hx,hy⟩;obtain⟨A,hA⟩:=ae (R8 x);obtain⟨B,hB⟩:=ae (R8 y);obtain⟨M,hM⟩:=ae (R8 mM);have Rs:R8 0=#[.int .u32 0,.int .u32 0,.int .u32 0,.int .u32 0,.int .u32 0,.int .u32 0,.int .u32 0,.int .u32 0]:=by kernel_rfl
 rw[←hA,←hB,←hM];obtain⟨W0,bD⟩:∃W0,W0=((((w.alloc (.cells A 92)).alloc (.cells B 92)).alloc (.cells M 92)).alloc (.cells (R8 0) 92)).alloc (.cells (dB (List.replicate 17 0)).toArray 143):=⟨_,rfl⟩;have h5:=vq w (.cells A 92) (.cells B 92) (.cells M 92) (.cells (R8 0) 92) (.cells (dB (List.replicate 17 0)).toArray 143);have qI:Hid (Below w.heap.size w W0):=ab (by rw[bD];exact(((((adl _ w).alloc (adi _) _).alloc (by simp) _).alloc (by simp;omega) _).alloc (by simp;omega) _).alloc (by simp;omega) _);rw[←bD] at h5;obtain⟨gX,gY,gM,gO,gT⟩:=h5;rw[hA,R8,←hX] at gX;rw[hB,R8,←hY] at gY;rw[hM] at gM;rw[Rs] at bD;obtain⟨G,hG⟩:=ae w.heap.size;rw[←hG] at gX gY gM gO gT;have GX:=ab gX;have GY:=ab gY;have GM:=ab gM;have GO:=ab gO;have GT:=ab gT;have wC:=ab bD;have HG:=ab hG;have HR:=ab hR;clear hX hY hA hB hM Rs bD gX gY gM gO gT hG hx hy hR;go_enter Tryz.func92,Tryz.ntmps92;go_wp2_with fail;refine(show W0=_ from wC.out)▸?_;rw[←HG.out];go_loopw [8,9] (fun cv iv wr=>∃(i c:Nat) (T:List Nat),i≤8∧iv=.int .i64 i∧cv=.int .u64 c∧c<2∧Hid (T.length=17∧(∀t∈T,t<4294967296)∧NZ T i∧wu T+c*2^(32*i)=wu (X.take i)+wu (Y.take i))∧wr.heap[G+1+1+1+1]?=some (.cells (dB T).toArray 143 (0,0))∧W0.grownBy wr (some (G+1+1+1+1))) (fun _ iv _=>8-(intOf iv).toNat)
 case atStart=>exact⟨0,0,List.replicate 17 0,by omega,rfl,rfl,by omega,ab ⟨by simp,by simp,fun j _ hj=>by rw[List.getElem?_replicate,if_pos hj],by rw[vh];simp[wu]⟩,GT.out,dh _ _⟩
 case round=>
  obtain⟨i,c,T,hi,rfl,rfl,hc,HT,gT,hg⟩:=hrel
  by_cases aV:i<8
  · have C9:i<X.length:=by rw[wO.out];exact aV
    have hiY:i<Y.length:=by rw[M0.out];exact aV
    have zq:i<T.length:=by rw[HT.out.1];omega
    have gX:=(hg.block G (cp GX.out) (by simp;omega)).trans GX.out;have gY:=(hg.block (G+1) (cp GY.out) (by simp)).trans GY.out;have h0:=HT.out.2.2.1.at (by omega) zq;have nd:=PZ T X Y i c ((X[i]+Y[i]+c)/4294967296) ((X[i]+Y[i]+c)%4294967296) zq C9 hiY h0 (by omega) HT.out.2.2.2;have cX:=cf gX C9;have cY:=cf gY hiY;have Z1:=Ux.out _ (List.getElem_mem C9);have Z2:=Uy.out _ (List.getElem_mem hiY);generalize X[i]=a at cX nd Z1;generalize Y[i]=d at cY nd Z2;obtain⟨s,hs⟩:∃s,s=a+d+c:=⟨_,rfl⟩;rw[←hs] at nd;have hsI:(a:Int)+(d:Int)+(c:Int)=(s:Int):=by omega
    have hsB:s<8589934592:=by omega
    have cN:=cf gT zq;rw[h0] at cN;have zN:=dQ gT i;have HF:Hid ((T.set i (s%4294967296)).length=17∧(∀t∈T.set i (s%4294967296),t<4294967296)∧NZ (T.set i (s%4294967296)) (i+1)∧wu (T.set i (s%4294967296))+s/4294967296*2^(32*(i+1))=wu (X.take (i+1))+wu (Y.take (i+1))):=ab ⟨by rw[List.length_set];exact HT.out.1,nT HT.out.2.1 (Nat.mod_lt _ (by decide)) i,(HT.out.2.2.1.mono (by omega)).set (by omega),nd⟩;have GC:=ab gT;have Hg:=ab hg;clear nd h0 gX gY gT hg C9 hiY zq HT hs;go_wp2_with fail;refine aE [(0,0),(1,0),(2,1),(3,0),(4,0),(5,0),(6,1),(7,0),(8,0),(9,0),(10,0),(11,0)] 12 bx (by kernel_rfl) (by intro c a d v w h;cases d<;>exact h) ?_
    repeat ((first|(refine ao rfl (fun K hK=>?_))|(refine aD rfl (fun K hK=>?_)));go_simp;(first|(refine hK _ ?_) );clear hK K;(try go_bits))
    refine aB ?_;go_wp2_with fail;have iH:(s:Int)%4294967296=((s%4294967296:Nat):Int):=by omega
    have jt:(s:Int)/4294967296=((s/4294967296:Nat):Int):=by omega
    rw[iH,jt];exact⟨⟨i+1,s/4294967296,T.set i (s%4294967296),by omega,by go_num,rfl,by omega,HF,by rw[heap_drew,m7 GC.out],eO (cC Hg.out _ _)⟩,by simp only[intOf];omega⟩
  obtain rfl:i=8:=by omega
  have gM:=(hg.block (G+1+1) (cp GM.out) (by simp)).trans GM.out;have gO:=(hg.block (G+1+1+1) (cp GO.out) (by simp)).trans GO.out;have dW:=Cz T 8 c _ HT.out.1 HT.out.2.2.1 (by omega) HT.out.2.2.2;rw[ady (by rw[wO.out];omega),ady (by rw[M0.out];omega),Rm.out,Rn.out] at dW;have HF:Hid ((T.set 8 c).length=17∧(∀t∈T.set 8 c,t<4294967296)∧wu (T.set 8 c)=x+y):=ab ⟨by rw[List.length_set];exact HT.out.1,nT HT.out.2.1 (by omega) 8,dW⟩;have cN:=cf gT (k:=8) (by rw[HT.out.1];omega);generalize T[8]'(by rw[HT.out.1];decide)=tt at cN
  have zN:=dQ gT 8
  have HRd:∀W,Calls Tryz.prog 95 #[.agg (dB (T.set 8 c)).toArray,.agg (R8 mM)] W fun e W'=>e=.returned (.agg (R8 R))∧Below W.heap.size W W':=fun W=>by
   have:=sD hm (T.set 8 c) HF.out.1 HF.out.2.1 (by rw[HF.out.2.2];exact Jw Rp.out.1 Rp.out.2) W;rw[HF.out.2.2,←HR.out] at this;exact this
  have UJ:=ab HRd;obtain⟨wq,Sp⟩:∃wq,wq=wr.setCell ⟨G+1+1+1+1,8,none⟩ (.int .u32 (c:Int)):=⟨_,rfl⟩;have hgq:W0.grownBy wq (some (G+1+1+1+1)):=by rw[Sp];exact cC hg _ _
  have gTq:wq.heap[G+1+1+1+1]?=some (.cells (dB (T.set 8 c)).toArray 143 (0,0)):=by rw[Sp];exact m7 gT
  have nn:=ab (EX HF.out.1);have Jm:Hid (Below w.heap.size w wq):=ab (qI.out.grown hgq qI.out.size (fun _ h=>by cases h;rw[HG.out];omega));have GM1:=ab ((hgq.block (G+1+1) (cp GM.out) (by simp)).trans GM.out);have M1:=ab ((hgq.block (G+1+1+1) (cp GO.out) (by simp)).trans GO.out);have Uz:=ab gTq;have Hwq:=ab Sp;clear gM gO gT hg HRd dW Sp hgq gTq;go_wp2_with (first|(refine(show wq=_ from Hwq.out)▸?_;refine adw rfl 143 (.tmp 7) rfl (G+1+1+1+1) rfl 143 (dB (T.set 8 c)).toArray (0,0) _ Uz.out Tryz.underlying143 rfl nn.out ?_)|(refine adw rfl 92 (.tmp 5) rfl (G+1+1) rfl 92 (R8 mM) (0,0) _ GM1.out Tryz.underlying92 rfl (aO _) ?_));refine(UJ.out _).mono ?_;rintro e w2 ⟨rfl,bS⟩;have zU:=ab ((bS.block (G+1+1+1) (cp M1.out)).trans M1.out);have Hb2:=ab (Jm.out.trans (bS.mono Jm.out.size));clear bS;go_wp2_with (first|(refine ado rfl 92 (.tmp 6) (.tmp 37) rfl (G+1+1+1) (R8 R) rfl rfl 92 _ zU.out (aO _) rfl (cR _) ?_));refine adm (v:=.agg (R8 R)) ?_ rfl ⟨rfl,au Hb2.out (by rw[HG.out];omega) _⟩;exact adr rfl _ _ (G+1+1+1) 92 (R8 R) (0,0) _ rfl (adt _ _ _ _ _ _ zU.out) Tryz.underlying92 rfl (aO _)
end Go.Proofs.YtnlkdheaohocnaaGreatDoor
