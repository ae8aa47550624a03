/- Of any text: the program's descriptors and the reference's are read and written alike (DescParses). No condition. -/
import Derived.Test.YtcjioogololnoaaGreatDoorU1
import Derived.Test.YtcjioogololnoaaGreatDoorU26
import Derived.Test.YtcjioogololnoaaGreatDoorU13
import Derived.Test.YtcjioogololnoaaGreatDoorU23
import Derived.Test.YtcjioogololnoaaGreatDoorU15
set_option maxRecDepth 1000000
set_option maxHeartbeats 16000000
set_option linter.unusedVariables false
set_option linter.unusedSimpArgs false
namespace Go.Proofs.YtcjioogololnoaaGreatDoor
open Go Go.RowKit Go.Shelf
theorem xM (w:World) (o1 o2 o3 o4 o5:Obj):(((((w.alloc o1).alloc o2).alloc o3).alloc o4).alloc o5).heap[w.heap.size]?=some o1∧(((((w.alloc o1).alloc o2).alloc o3).alloc o4).alloc o5).heap[w.heap.size+1]?=some o2∧
 (((((w.alloc o1).alloc o2).alloc o3).alloc o4).alloc o5).heap[w.heap.size+1+1]?=some o3∧(((((w.alloc o1).alloc o2).alloc o3).alloc o4).alloc o5).heap[w.heap.size+1+1+1]?=some o4∧(((((w.alloc o1).alloc o2).alloc o3).alloc o4).alloc o5).heap[w.heap.size+1+1+1+1]?=some o5:=by
 obtain⟨h1,h2,h3,h4⟩:=jH w o1 o2 o3 o4;have h5:=af4 ((((w.alloc o1).alloc o2).alloc o3).alloc o4) o5;simp only[agn] at h5;exact⟨eV h1,eV h2,eV h3,eV h4,h5⟩
def NZ (T:List Nat) (i:Nat):Prop:=∀j,i≤j→j<17→T[j]?=some 0
theorem NZ.set {T:List Nat} {i k v:Nat} (h:NZ T i) (hk:k<i):NZ (T.set k v) i:=fun j hj hl=>by rw[List.getElem?_set_ne (by omega)];exact h j hj hl
theorem NZ.mono {T:List Nat} {i k:Nat} (h:NZ T i) (hk:i≤k):NZ T k:=fun j hj hl=>h j (by omega) hl
theorem NZ.at {T:List Nat} {i:Nat} (h:NZ T i) (hi:i<17) (hl:i<T.length):T[i]=0:=by
 have:=h i (af2 _) hi;rw[age hl] at this;exact Option.some.inj this
theorem D7 (U:List Nat) (i c S:Nat) (hl:U.length=17) (hz:NZ U i) (hi:i<17) (h:wu U+c*2^(32*i)=S):wu (U.set i c)=S:=by
 have h1:=Gx U i (by omega) c;rw[hz.at hi (by omega),Nat.zero_mul,Nat.add_zero] at h1;omega
theorem Ul {X:List Nat} {i a Y:Nat} (hi:i<X.length) (ha:a=X[i]) (S:Nat) (hS:S=wu (X.take i)*Y):S+a*Y*2^(32*i)=wu (X.take (i+1))*Y:=by
 rw[lj X i hi,←ha,Nat.add_mul,←hS,Nat.mul_right_comm a]
theorem Um (T X Y:List Nat) (i c c' t':Nat) (hT:i<T.length) (hX:i<X.length) (hY:i<Y.length) (h0:T[i]=0) (he:t'+4294967296*c'=X[i]+Y[i]+c)
 (h:wu T+c*2^(32*i)=wu (X.take i)+wu (Y.take i)):wu (T.set i t')+c'*2^(32*(i+1))=wu (X.take (i+1))+wu (Y.take (i+1)):=by
 have h1:=tx T i hT (X[i]+Y[i]) c c' t' (by omega);rw[h1,lj X i hX,lj Y i hY,Nat.add_mul];omega
set_option exponentiation.threshold 1000 in
theorem LI {x y:Nat} (hx:x<2^256) (hy:y<2^256):x*y<2^512:=by
 rw[show (512:Nat)=256+256 from rfl,Nat.pow_add];exact Nat.mul_lt_mul'' hx hy
set_option exponentiation.threshold 1000 in
theorem LJ {x y:Nat} (hx:x<2^256) (hy:y<2^256):x+y<2^512:=by
 refine agq (show x+y<2^257 by omega) (Nat.pow_le_pow_right (by decide) (by decide))
theorem sf (x y:Nat) (hx:x<2^256) (hy:y<2^256) (w:World):
 Calls Tryz.prog 155 #[.agg (R8 x),.agg (R8 y),.agg (R8 al)] w fun e W'=>e=.returned (.agg (R8 (x*y%al)))∧Below w.heap.size w W':=by
 have bW:Tryz.prog.follows .mixedOrders=true:=by kernel_rfl
 obtain⟨R,hR⟩:∃R,R=x*y%al:=⟨_,rfl⟩;rw[←hR];obtain⟨X,hX⟩:=ab (nu 8 x);obtain⟨Y,hY⟩:=ab (nu 8 y);have BP:Hid (X.length=8):=aa (by rw[hX,aS]);have P4:Hid (Y.length=8):=aa (by rw[hY,aS]);have Zl:Hid (∀t∈X,t<4294967296):=aa (by rw[hX];exact np 8 x);have Zm:Hid (∀t∈Y,t<4294967296):=aa (by rw[hY];exact np 8 y);have RO:Hid (wu X=x):=aa (by rw[hX];exact lk 8 x hx);have Wc:Hid (wu Y=y):=aa (by rw[hY];exact lk 8 y hy);have Wf:Hid (x<2^256∧y<2^256):=aa ⟨hx,hy⟩;obtain⟨A,hA⟩:=ab (R8 x);obtain⟨B,hB⟩:=ab (R8 y);obtain⟨M,hM⟩:=ab (R8 al);have GG:R8 0=#[.int .u32 0,.int .u32 0,.int .u32 0,.int .u32 0,.int .u32 0,.int .u32 0,.int .u32 0,.int .u32 0]:=by kernel_rfl
 rw[←hA,←hB,←hM];obtain⟨W0,aM⟩:∃W0,W0=((((w.alloc (.cells A 121)).alloc (.cells B 121)).alloc (.cells M 121)).alloc (.cells (R8 0) 121)).alloc (.cells (cL (List.replicate 17 0)).toArray 236):=⟨_,rfl⟩;have h5:=xM w (.cells A 121) (.cells B 121) (.cells M 121) (.cells (R8 0) 121) (.cells (cL (List.replicate 17 0)).toArray 236);have dh:Hid (Below w.heap.size w W0):=aa (by rw[aM];exact(((((af5 _ w).alloc (af2 _) _).alloc (by simp) _).alloc (by simp;omega) _).alloc (by simp;omega) _).alloc (by simp;omega) _);rw[←aM] at h5;obtain⟨gX,gY,gM,gO,gT⟩:=h5;rw[hA,R8,←hX] at gX;rw[hB,R8,←hY] at gY;rw[hM] at gM;rw[GG] at aM;obtain⟨G,hG⟩:=ab w.heap.size;rw[←hG] at gX gY gM gO gT;have GX:=aa gX;have GY:=aa gY;have GM:=aa gM;have GO:=aa gO;have GT:=aa gT;have gJ:=aa aM;have HG:=aa hG;have HR:=aa hR;clear hX hY hA hB hM GG aM gX gY gM gO gT hG hx hy hR;go_enter Tryz.func155,Tryz.ntmps155;go_wp2_with fail;refine(show W0=_ from gJ.out)▸?_;rw[←HG.out];go_loopw [8] (fun iv wr=>∃(i:Nat) (T:List Nat),i≤8∧iv=.int .i64 i∧Hid (T.length=17∧(∀t∈T,t<4294967296)∧NZ T (i+8)∧wu T=wu (X.take i)*y)∧wr.heap[G+1+1+1+1]?=some (.cells (cL T).toArray 236 (0,0))∧W0.grownBy wr (some (G+1+1+1+1))) (fun iv _=>8-(intOf iv).toNat)
 case atStart=>exact⟨0,List.replicate 17 0,by omega,rfl,aa ⟨by simp,by simp,fun j _ hj=>by rw[List.getElem?_replicate,if_pos hj],by rw[xE];simp[wu]⟩,GT.out,cV _ _⟩
 case round=>
  obtain⟨i,T,hi,rfl,HT,gT,hg⟩:=hrel
  by_cases aL:i<8
  · have Kg:i<X.length:=by rw[BP.out];exact aL
    obtain⟨a,ha⟩:∃a,a=X[i]:=⟨_,rfl⟩;have Zx:a<4294967296:=by rw[ha];exact Zl.out _ (agl _)
    obtain⟨S,hS⟩:=ab (wu T);have HE:Hid (S+a*y*2^(32*i)=wu (X.take (i+1))*y):=aa (Ul Kg ha S (by rw[hS,HT.out.2.2.2]));have Od:Hid (T.length=17∧(∀t∈T,t<4294967296)∧NZ T (i+8)∧wu T+0*2^(32*(i+0))=S+a*wu (Y.take 0)*2^(32*i)):=aa ⟨HT.out.1,HT.out.2.1,HT.out.2.2.1,by rw[hS];simp[wu]⟩;have Ha:=aa ha;have GC:=aa gT;have Hg:=aa hg;clear ha hS gT hg HT;go_wp2_with fail;go_loopw [9,10] (fun cv jv wj=>∃(j c:Nat) (U:List Nat),j≤8∧jv=.int .i64 j∧cv=.int .u64 c∧c<4294967296∧Hid (U.length=17∧(∀t∈U,t<4294967296)∧NZ U (i+8)∧wu U+c*2^(32*(i+j))=S+a*wu (Y.take j)*2^(32*i))∧wj.heap[G+1+1+1+1]?=some (.cells (cL U).toArray 236 (0,0))∧W0.grownBy wj (some (G+1+1+1+1))) (fun _ jv _=>8-(intOf jv).toNat)
    case atStart=>exact⟨0,0,T,by omega,rfl,rfl,by omega,aa Od.out,GC.out,Hg.out⟩
    case round=>
     clear GC Hg Od;obtain⟨j,c,U,Rn,rfl,rfl,hc,HU,gT,hg⟩:=hrel;have gX:=(hg.block G (aJ GX.out) (by simp;omega)).trans GX.out;have gY:=(hg.block (G+1) (aJ GY.out) (by simp)).trans GY.out
     by_cases LG:j<8
     · obtain⟨p,hp⟩:∃p,p=i+j:=⟨_,rfl⟩
       have LH:p<17:=by omega
       have Wh:(i:Int)+(j:Int)=(p:Int):=by omega
       have hpU:p<U.length:=by rw[HU.out.1];exact LH
       have We:j<Y.length:=by rw[P4.out];exact LG
       obtain⟨t,ht⟩:∃t,t=U[p]:=⟨_,rfl⟩;obtain⟨d,hd⟩:∃d,d=Y[j]:=⟨_,rfl⟩;have Uj:t<4294967296:=by rw[ht];exact HU.out.2.1 _ (agl _)
       have wG:d<4294967296:=by rw[hd];exact Zm.out _ (agl _)
       have cX:=cO gX Kg;rw[←Ha.out] at cX;have cY:=cO gY We;rw[←hd] at cY;have cN:=cO gT hpU;rw[←ht] at cN;have zN:=bV gT p;obtain⟨m1,m2,m3⟩:=Wg a d t c Zx wG Uj hc;obtain⟨m,hm⟩:∃m,m=a*d:=⟨_,rfl⟩;have U1:(a:Int)*(d:Int)=(m:Int):=by rw[hm];push_cast;rfl
       rw[←hm] at m1 m2 m3
       have nz:=Jn U Y i j a c ((m+t+c)/4294967296) ((m+t+c)%4294967296) S (by omega) We (by
        have e1:U[i+j]'(by omega)=t:=by rw[ht];congr 1;exact hp.symm
        rw[e1,←hd,←hm];omega) HU.out.2.2.2
       rw[←hp] at nz;obtain⟨s,hs⟩:∃s,s=m+t+c:=⟨_,rfl⟩;have hsI:(m:Int)+(t:Int)+(c:Int)=(s:Int):=by omega
       have hmB:m≤s:=by rw[hs];omega
       rw[←hs] at m1 m2 m3 nz;have Qh:=aa nz;have HUs:=aa (oM HU.out.2.1 m2 p);have HUz:=aa (HU.out.2.2.1.set (k:=p) (v:=s%4294967296) (by omega));have ra:Hid ((U.set p (s%4294967296)).length=17):=aa (by rw[List.length_set];exact HU.out.1);have GC:=aa gT;have Hg:=aa hg;have M3:=aa m3;clear hp ht hd hm hs nz gT hg hpU We gX gY m2 m3;have hjt:decide ((j:Int)<8)=true:=af9 (by omega);go_wp2_with fail;refine an [(0,0),(1,0),(2,1),(3,0),(4,0),(5,0),(6,1),(7,0),(8,0),(9,0),(10,0),(11,0),(12,0),(13,1),(14,0),(15,0),(16,0),(17,0),(18,0)] 19 bW (by kernel_rfl) (by intro c a d v w h;cases d<;>exact h) ?_
       repeat ((first|refine ag rfl fun K hK=>?_|refine af rfl fun K hK=>?_);go_simp;(first|refine hK _ ?_|(simp only[IntWalk.iteOmega];go_simp;refine hK _ ?_)|(go_bits;go_simp;refine hK _ ?_));clear hK K;try go_bits)
       refine ak ?_;go_wp2_with fail;go_simp;have jY:(s:Int)%4294967296=((s%4294967296:Nat):Int):=by omega
       have px:(s:Int)/4294967296=((s/4294967296:Nat):Int):=by omega
       rw[jY,px];exact⟨⟨j+1,by omega,by omega,s/4294967296,by omega,M3.out,U.set p (s%4294967296),aa ⟨ra.out,HUs.out,HUz.out,Qh.out⟩,by rw[heap_drew,kF GC.out],eQ (be Hg.out _ _)⟩,by simp only[intOf];omega⟩
     obtain rfl:j=8:=by omega
     have iD:=D7 U (i+8) c _ HU.out.1 HU.out.2.2.1 (by omega) HU.out.2.2.2;rw[af7 (by rw[P4.out];omega),Wc.out,HE.out] at iD;obtain⟨p,hp⟩:∃p,p=i+8:=⟨_,rfl⟩;have LH:p<17:=by omega
     have Wh:(i:Int)+8=(p:Int):=by omega
     rw[←hp] at iD;have HF:Hid ((U.set p c).length=17∧(∀t∈U.set p c,t<4294967296)∧NZ (U.set p c) (i+1+8)∧wu (U.set p c)=wu (X.take (i+1))*y):=aa ⟨by rw[List.length_set];exact HU.out.1,oM HU.out.2.1 hc p,(HU.out.2.2.1.mono (by omega)).set (by omega),iD⟩;have cN:=cO gT (k:=p) (by rw[HU.out.1];exact LH);generalize U[p]'(by rw[HU.out.1];exact LH)=tt at cN
     have zN:=bV gT p;have GC:=aa gT;have Hg:=aa hg;clear iD gT hg gX gY hp;go_wp2_with fail;exact⟨⟨i+1,U.set p c,by omega,by go_num,HF,kF GC.out,be Hg.out _ _⟩,by simp only[intOf];omega⟩
  obtain rfl:i=8:=by omega
  have gM:=(hg.block (G+1+1) (aJ GM.out) (by simp)).trans GM.out;have gO:=(hg.block (G+1+1+1) (aJ GO.out) (by simp)).trans GO.out;have hv:wu T=x*y:=by rw[HT.out.2.2.2,af7 (by rw[BP.out];omega),RO.out]
  have Jo:∀W,Calls Tryz.prog 185 #[.agg (cL T).toArray,.agg (R8 al)] W fun e W'=>e=.returned (.agg (R8 R))∧Below W.heap.size W W':=fun W=>by
   have:=xL T HT.out.1 HT.out.2.1 (by rw[hv];exact LI Wf.out.1 Wf.out.2) W;rw[hv,←HR.out] at this;exact this
  have ZA:=aa Jo;have ra:=aa (GF HT.out.1);have jN:Hid (Below w.heap.size w wr):=aa (dh.out.grown hg dh.out.size (fun _ h=>by cases h;rw[HG.out];omega));have GM1:=aa gM;have P5:=aa gO;have Zo:=aa gT;clear gM gO gT hg Jo;go_wp2_with (first|(refine aga rfl 236 (.tmp 7) rfl (G+1+1+1+1) rfl 236 (cL T).toArray (0,0) _ Zo.out Tryz.underlying236 rfl ra.out ?_)|(refine aga rfl 121 (.tmp 5) rfl (G+1+1) rfl 121 (R8 al) (0,0) _ GM1.out Tryz.underlying121 rfl (aC _) ?_));refine(ZA.out _).mono ?_;rintro e w2 ⟨rfl,bt⟩;have vJ:=aa ((bt.block (G+1+1+1) (aJ P5.out)).trans P5.out);have mH:=aa (jN.out.trans (bt.mono jN.out.size));clear bt;go_wp2_with (first|(refine af6 rfl 121 (.tmp 6) (.tmp 53) rfl (G+1+1+1) (R8 R) rfl rfl 121 _ vJ.out (aC _) rfl (fi _) ?_));refine agf (v:=.agg (R8 R)) ?_ rfl ⟨rfl,ah mH.out (by rw[HG.out];omega) _⟩;exact ags rfl _ _ (G+1+1+1) 121 (R8 R) (0,0) _ rfl (agd _ _ _ _ _ _ vJ.out) Tryz.underlying121 rfl (aC _)
structure PowAt (w W:World) (G x e v:Nat):Prop where
 hG:w.heap.size≤G
 hb:Below w.heap.size w W
 rx:W.heap[G]?=some (.cells (R8 x) 121 (0,0))
 re:W.heap[G+1]?=some (.cells (R8 e) 121 (0,0))
 rm:W.heap[G+1+1]?=some (.cells (R8 al) 121 (0,0))
 ro:W.heap[G+1+1+1]?=some (.cells (R8 0) 121 (0,0))
 rv:W.heap[G+1+1+1+1]?=some (.cells (R8 v) 121 (0,0))
theorem PowAt.below {w W W':World} {G x e v:Nat} (h:PowAt w W G x e v) (hb:Below W.heap.size W W'):PowAt w W' G x e v:=
 ⟨h.hG,h.hb.trans (hb.mono h.hb.size),(hb.block _ (aJ h.rx)).trans h.rx,(hb.block _ (aJ h.re)).trans h.re,(hb.block _ (aJ h.rm)).trans h.rm,(hb.block _ (aJ h.ro)).trans h.ro,(hb.block _ (aJ h.rv)).trans h.rv⟩
theorem PowAt.setV {w W:World} {G x e v:Nat} (h:PowAt w W G x e v) (u:Nat):PowAt w (W.setRow (G+1+1+1+1) (R8 u)) G x e u:=
 ⟨h.hG,ah h.hb (by have:=h.hG;omega) _,(setRow_other W _ G (R8 u) (by omega)).trans h.rx,(setRow_other W _ (G+1) (R8 u) (by omega)).trans h.re,(setRow_other W _ (G+1+1) (R8 u) (by omega)).trans h.rm,
  (setRow_other W _ (G+1+1+1) (R8 u) (by omega)).trans h.ro,agd _ _ _ _ _ _ h.rv⟩
theorem zB (x e:Nat):∀j,yc al x e j<2^256
 |0=>by rw[yc];decide
 |j+1=>by
  have h1:∀n,n%al<2^256:=fun n=>Nat.lt_trans (Nat.mod_lt _ (by decide)) fw
  rw[yc];split
  · exact h1 _
  exact h1 _
theorem Qi (x e:Nat) (hx:x<2^256) (he:e<2^256) (w:World):
 Calls Tryz.prog 156 #[.agg (R8 x),.agg (R8 e),.agg (R8 al)] w fun r W'=>r=.returned (.agg (R8 (pw al x e)))∧Below w.heap.size w W':=by
 have GG:R8 0=#[.int .u32 0,.int .u32 0,.int .u32 0,.int .u32 0,.int .u32 0,.int .u32 0,.int .u32 0,.int .u32 0]:=by kernel_rfl
 have hO8:R8 1=#[.int .u32 1,.int .u32 0,.int .u32 0,.int .u32 0,.int .u32 0,.int .u32 0,.int .u32 0,.int .u32 0]:=by kernel_rfl
 obtain⟨W0,aM⟩:∃W0,W0=((((w.alloc (.cells (R8 x) 121)).alloc (.cells (R8 e) 121)).alloc (.cells (R8 al) 121)).alloc (.cells (R8 0) 121)).alloc (.cells (R8 1) 121):=⟨_,rfl⟩;have h5:=xM w (.cells (R8 x) 121) (.cells (R8 e) 121) (.cells (R8 al) 121) (.cells (R8 0) 121) (.cells (R8 1) 121);have bL:Below w.heap.size w W0:=by rw[aM];exact(((((af5 _ w).alloc (af2 _) _).alloc (by simp) _).alloc (by simp;omega) _).alloc (by simp;omega) _).alloc (by simp;omega) _
 rw[←aM] at h5;obtain⟨G,hG⟩:=ab w.heap.size;rw[←hG] at h5;have HA:Hid (PowAt w W0 G x e 1):=aa ⟨by omega,bL,h5.1,h5.2.1,h5.2.2.1,h5.2.2.2.1,h5.2.2.2.2⟩;obtain⟨A,hA⟩:=ab (R8 x);obtain⟨B,hB⟩:=ab (R8 e);obtain⟨M,hM⟩:=ab (R8 al);rw[←hA,←hB,←hM,GG,hO8] at aM;rw[←hA,←hB,←hM];have gJ:=aa aM;have HG:=aa hG;have Hx:=aa hx;have He:=aa he;clear hA hB hM GG hO8 aM hG h5 bL hx he;go_enter Tryz.func156,Tryz.ntmps156;go_wp2_with fail;refine(show W0=_ from gJ.out)▸?_;rw[←HG.out];go_loopw [8] (fun iv wr=>∃j:Nat,j≤256∧iv=.int .i64 (255-(j:Int))∧PowAt w wr G x e (yc al x e j)) (fun iv _=>(intOf iv+1).toNat)
 case atStart=>exact⟨0,by omega,rfl,HA.out⟩
 case round=>
  obtain⟨j,hj,rfl,hP⟩:=hrel
  by_cases aL:j<256
  · obtain⟨k,hk⟩:∃k:Nat,(255:Int)-(j:Int)=(k:Int):=⟨255-j,by omega⟩
    have hkj:255-j=k:=by omega
    obtain⟨v,hv⟩:=ab (yc al x e j);have Qj:v<2^256:=by rw[hv];exact zB x e j
    have hsq:v*v%al<2^256:=Nat.lt_trans (Nat.mod_lt _ (by decide)) fw;have Jp:yc al x e (j+1)=if e/2^k%2=1 then v*v%al*x%al else v*v%al:=by rw[yc,hkj,hv]
    rw[←hv] at hP;obtain⟨s,hs⟩:∃s,s=v*v%al:=⟨_,rfl⟩;rw[←hs] at hsq Jp;have Fq:=aa (fun W=>sf v v Qj Qj W);rw[←hs] at Fq;have sS:=aa (fun W=>sf s x hsq Hx.out W);have HB:=aa (fun W=>P7 e k He.out (by omega) W);obtain⟨t,ht⟩:∃t,t=s*x%al:=⟨_,rfl⟩;rw[←ht] at Jp sS;have uu:=aa Jp;have HP:=aa hP;rw[hk];clear Qj hsq Jp hv hs ht hP hkj;go_wp2_with (first|(refine aga rfl 121 (.tmp 7) rfl (G+1+1+1+1) rfl 121 (R8 v) (0,0) _ HP.out.rv Tryz.underlying121 rfl (aC _) ?_)|(refine aga rfl 121 (.tmp 5) rfl (G+1+1) rfl 121 (R8 al) (0,0) _ HP.out.rm Tryz.underlying121 rfl (aC _) ?_));refine(Fq.out _).mono ?_;rintro r w2 ⟨rfl,bt⟩;have HP2:=aa (HP.out.below bt);have RQ:=aa (HP2.out.setV s);obtain⟨W3,iF⟩:=ab (w2.setRow (G+1+1+1+1) (R8 s));rw[←iF] at RQ;have pd:=aa iF;clear bt iF HP Fq;go_wp2_with (first|(refine af6 rfl 121 (.tmp 7) (.tmp 17) rfl (G+1+1+1+1) (R8 s) rfl rfl 121 _ HP2.out.rv (aC _) rfl (fi _) ?_;rw[←pd.out])|(refine aga rfl 121 (.tmp 4) rfl (G+1) rfl 121 (R8 e) (0,0) _ RQ.out.re Tryz.underlying121 rfl (aC _) ?_));refine(HB.out _).mono ?_;rintro r w4 ⟨rfl,dn⟩;have MO:=aa (RQ.out.below dn);clear dn HP2 RQ pd HB
    by_cases AF:e/2^k%2=1
    · rw[af9 AF]
      have HN:Hid (yc al x e (j+1)=t):=aa (by rw[uu.out,if_pos AF]);clear AF uu;go_wp2_with (first|(refine aga rfl 121 (.tmp 7) rfl (G+1+1+1+1) rfl 121 (R8 s) (0,0) _ MO.out.rv Tryz.underlying121 rfl (aC _) ?_)|(refine aga rfl 121 (.tmp 3) rfl G rfl 121 (R8 x) (0,0) _ MO.out.rx Tryz.underlying121 rfl (aC _) ?_)|(refine aga rfl 121 (.tmp 5) rfl (G+1+1) rfl 121 (R8 al) (0,0) _ MO.out.rm Tryz.underlying121 rfl (aC _) ?_));refine(sS.out _).mono ?_;rintro r w5 ⟨rfl,eh⟩;have Wj:=aa (MO.out.below eh);clear eh MO sS;go_wp2_with (first|(refine af6 rfl 121 (.tmp 7) (.tmp 24) rfl (G+1+1+1+1) (R8 t) rfl rfl 121 _ Wj.out.rv (aC _) rfl (fi _) ?_));go_simp;exact⟨⟨j+1,by omega,by omega,by rw[HN.out];exact Wj.out.setV t⟩,by simp only[intOf];omega⟩
    rw[af8 AF];have HN:Hid (yc al x e (j+1)=s):=aa (by rw[uu.out,if_neg AF]);clear AF uu sS;go_wp2_with fail;go_simp;exact⟨⟨j+1,by omega,by omega,by rw[HN.out];exact MO.out⟩,by simp only[intOf];omega⟩
  obtain rfl:j=256:=by omega
  rw[show (255:Int)-((256:Nat):Int)=-1 from rfl];obtain⟨R,hR⟩:=ab (yc al x e 256);have HR:Hid (pw al x e=R):=aa (by rw[pw,hR]);rw[←hR] at hP;have HP:=aa hP;clear hP hR;go_wp2_with (first|(refine aga rfl 121 (.tmp 7) rfl (G+1+1+1+1) rfl 121 (R8 R) (0,0) _ HP.out.rv Tryz.underlying121 rfl (aC _) ?_)|(refine af6 rfl 121 (.tmp 6) (.tmp 25) rfl (G+1+1+1) (R8 R) rfl rfl 121 _ HP.out.ro (aC _) rfl (fi _) ?_));refine agf (v:=.agg (R8 R)) ?_ rfl ⟨by rw[HR.out],ah HP.out.hb (by have:=HP.out.hG;omega) _⟩;exact ags rfl _ _ (G+1+1+1) 121 (R8 R) (0,0) _ rfl (agd _ _ _ _ _ _ HP.out.ro) Tryz.underlying121 rfl (aC _)
def sC (D:List UInt8) (n i:Nat):List UInt8:=D.take i++List.replicate (n-i) 0
theorem kG (D:List UInt8) (n i:Nat) (h:i≤n) (hD:n≤D.length):(sC D n i).length=n:=by simp[sC];omega
theorem vf (D:List UInt8) (n i:Nat) (h:i<n) (hD:i<D.length):(sC D n i).set i D[i]=sC D n (i+1):=by
 have hl:(D.take i).length=i:=by simp;omega
 rw[sC,List.set_append_right _ _ (by omega),hl,Nat.sub_self,show n-i=(n-(i+1))+1 by omega,List.replicate_succ,List.set_cons_zero,sC,agh hD,agL];rfl
theorem sg (D:List UInt8) (n:Nat) (h:n=D.length):sC D n n=D:=by simp[sC,h]
theorem si (D:List UInt8) (n:Nat):sC D n 0=List.replicate n 0:=by simp[sC]
theorem ZB (l:List UInt8) (i:Nat) (v:UInt8):(B8 l).toArray.setIfInBounds i (.int .u8 (v.toNat:Int))=(B8 (l.set i v)).toArray:=by
 apply Array.ext';simp[B8,List.map_set]
theorem abW {w:World} {g t k:Nat} {l:List UInt8} {v:UInt8} (h:w.heap[g]?=some (.cells (B8 l).toArray t (0,0))):(w.setCell ⟨g,k,none⟩ (.int .u8 (v.toNat:Int))).heap[g]?=some (.cells (B8 (l.set k v)).toArray t (0,0)):=by
 rw[heap_setCell_same w g k _ _ _ h,ZB]
theorem Qk {w:World} {g t k:Nat} {l:List UInt8} (h:w.heap[g]?=some (.cells (B8 l).toArray t (0,0))) (hk:k<l.length):w.cell? ⟨g,k,none⟩=some (.int .u8 (l[k].toNat:Int)):=by
 rw[agb _ _ _ _ _ (0,0) h];simp[B8,hk]
theorem Un:(Tryz.prog.info? 56).map (·.size)=some 32:=by kernel_rfl
theorem Jq {l:List UInt8} (h:l.length=32):(Tryz.prog.info? 56).map (·.size)=some (B8 l).toArray.size:=by
 have:(B8 l).toArray.size=32:=by simp[h]
 rw[this];exact Un
theorem Ql (l:List UInt8):(B8 l).toArray.all (·.oneCell')=true:=by simp[B8];intro x _;rfl
theorem D8 (k:HKey) (hk:k.Ok) (w:World):
 Calls Tryz.prog 159 #[.agg (ba k).toArray] w fun e W'=>e=.returned (.agg (B8 (k.data.drop 1)).toArray)∧Below w.heap.size w W':=by
 obtain⟨cs,bB⟩:∃cs,cs=(ba k).toArray:=⟨_,rfl⟩;have aD:=fun (W:World) (g:Nat) (h:W.heap[g]?=some (.cells (ba k).toArray 69 (0,0)))=>ib hk h
 rw[←bB] at aD⊢;obtain⟨D,hD⟩:=ab (k.data.drop 1);have kQ:D.length=32:=by rw[hD,agD,hk.data]
 have yR:=aa kQ;rw[←hD]
 have hcD:∀(W:World) (g:Nat),W.heap[g]?=some (.cells cs 69 (0,0))→∀j (hj:j<D.length),W.cell? ⟨g,38+(j+1),none⟩=some (.int .u8 (D[j].toNat:Int)):=fun W g h j hj=>by
  subst hD;have yG:j+1<k.data.length:=by rw[agD] at hj;omega
  rw[aD W g h (j+1) yG];simp[Nat.add_comm]
 have dX:cs.size=71:=by rw[bB];simp[aI hk]
 have h3:=iV (w.alloc (.cells cs 69)) (.cells (B8 (List.replicate 32 0)).toArray 56) (.cells (B8 (List.replicate 32 0)).toArray 56);obtain⟨W0,aM⟩:∃W0,W0=((w.alloc (.cells cs 69)).alloc (.cells (B8 (List.replicate 32 0)).toArray 56)).alloc (.cells (B8 (List.replicate 32 0)).toArray 56):=⟨_,rfl⟩;have Ry:W0.heap[w.heap.size]?=some (.cells cs 69 (0,0)):=by rw[aM];exact eV (eV (af4 w _))
 rw[←aM,agn] at h3;have bL:Below w.heap.size w W0:=by rw[aM];exact(((af5 _ w).alloc (af2 _) _).alloc (by simp) _).alloc (by simp;omega) _
 obtain⟨G,hG⟩:=ab w.heap.size;rw[←hG] at Ry h3;have hz:(B8 (List.replicate 32 0)).toArray=Om:=by kernel_rfl
 rw[hz] at aM;unfold Om at aM;have gJ:=aa aM;have HG:=aa hG;have GK:=aa Ry;have GO:=aa h3.1;have GX:=aa h3.2;have SY:=aa hcD;have dh:=aa bL;clear bB aD hD kQ hcD dX h3 aM Ry bL hG hz;go_enter Tryz.func159,Tryz.ntmps159;go_wp2_with (refine wpList_boxTo rfl 69 (.tmp 0) rfl _ rfl w.heap.size rfl cs rfl ?_);refine(show W0=_ from gJ.out)▸?_;rw[←HG.out];go_loopw [4] (fun iv wr=>∃i:Nat,i≤32∧iv=.int .i64 i∧wr.heap[G+1+1]?=some (.cells (B8 (sC D 32 i)).toArray 56 (0,0))∧W0.grownBy wr (some (G+1+1))) (fun iv _=>32-(intOf iv).toNat)
 case atStart=>exact⟨0,by omega,rfl,by rw[si];exact GX.out,cV _ _⟩
 case round=>
  obtain⟨i,hi,rfl,gX,hg⟩:=hrel;have gK:=(hg.block G (aJ GK.out) (by simp;omega)).trans GK.out
  by_cases aL:i<32
  · have hiD:i<D.length:=by rw[yR.out];exact aL
    have cD:=SY.out wr G gK i hiD;obtain⟨y,hy⟩:∃y,y=D[i]:=⟨_,rfl⟩;rw[←hy] at cD;have vL:Hid ((sC D 32 i).set i y=sC D 32 (i+1)):=aa (by rw[hy];exact vf D 32 i aL hiD);have ZC:i<(sC D 32 i).length:=by rw[kG D 32 i (by omega) (by rw[yR.out];exact af2 _)];exact aL
    have cX:=Qk gX ZC;generalize (sC D 32 i)[i]=u at cX;have zX:=bV gX i;have GC:=aa gX;have Hg:=aa hg;clear hy hiD ZC gX hg gK;go_wp2_with fail;exact⟨⟨i+1,by omega,by go_num,by rw[←vL.out];exact abW GC.out,be Hg.out _ _⟩,by simp only[intOf];omega⟩
  obtain rfl:i=32:=by omega
  rw[sg D 32 yR.out.symm] at gX;have GC:=aa gX;have vJ:=aa ((hg.block (G+1) (aJ GO.out) (by simp)).trans GO.out);have mH:=aa (dh.out.grown hg dh.out.size (fun _ h=>by cases h;have:=HG.out;omega));have X6:=aa (Jq yR.out);clear gX hg gK;go_wp2_with (first|(refine aga rfl 56 (.tmp 3) rfl (G+1+1) rfl 56 (B8 D).toArray (0,0) _ GC.out Tryz.underlying56 rfl X6.out ?_)|(refine af6 rfl 56 (.tmp 2) (.tmp 16) rfl (G+1) (B8 D).toArray rfl rfl 56 _ vJ.out X6.out (by simp[yR.out]) (Ql _) ?_));refine agf (v:=.agg (B8 D).toArray) ?_ rfl ⟨rfl,ah mH.out (by have:=HG.out;omega) _⟩;exact ags rfl _ _ (G+1) 56 (B8 D).toArray (0,0) _ rfl (agd _ _ _ _ _ _ vJ.out) Tryz.underlying56 rfl X6.out
theorem LK (n:Nat) (hn:n<4294967296) (w:World):
 Calls Tryz.prog 88 #[.int .u32 n] w fun e W'=>∃v,e=.returned v∧Ow W' w.heap.size 5 v (B8 (fF n))∧Below w.heap.size w W':=by
 go_enter Tryz.func88,Tryz.ntmps88;go_wp2_with fail;go_ret
 have hq:(#[.int .u8 ((n:Int)/16777216),.int .u8 ((n:Int)/65536%256),.int .u8 ((n:Int)/256%256),.int .u8 ((n:Int)%256)]:Array Value)=(B8 (fF n)).toArray:=by
  simp only[fF,B8,List.map,agp];rw[show ((n/16777216%2^8:Nat):Int)=(n:Int)/16777216 by omega,show ((n/65536%2^8:Nat):Int)=(n:Int)/65536%256 by omega,show ((n/256%2^8:Nat):Int)=(n:Int)/256%256 by omega,show ((n%2^8:Nat):Int)=(n:Int)%256 by omega]
 rw[hq];refine⟨_,rfl,?_,(af5 _ w).alloc (af2 _) _⟩;have h:=Ow.of_row (w:=w) (cap:=4) (B8 (fF n)).toArray 5 w.heap.size (af2 _) (by simp[fF]) (by decide) 4 (af2 _);have e:(B8 (fF n)).toArray.toList.take 4=B8 (fF n):=by simp[fF,B8]
 rw[e] at h;exact h
theorem zC (k:HKey) (hk:k.Ok) (w:World):
 Calls Tryz.prog 58 #[.agg (ba k).toArray] w fun e W'=>e=.returned (.string ⟨(eO k).toArray⟩)∧Below w.heap.size w W':=by
 obtain⟨cs,bB⟩:∃cs,cs=(ba k).toArray:=⟨_,rfl⟩;rw[←bB];have dX:cs.size=71:=by rw[bB];simp[aI hk]
 have aF:=af4 w (.cells cs 69);obtain⟨W0,aM⟩:=ab (w.alloc (.cells cs 69));rw[←aM] at aF;have bL:Below w.heap.size w W0:=by rw[aM];exact(af5 _ w).alloc (af2 _) _
 obtain⟨B,hB⟩:=ab w.heap.size;rw[←hB] at aF
 have aD:∀j,W0.cell? ⟨B,j,none⟩=(ba k)[j]?:=fun j=>by
  rw[agb _ _ _ _ _ _ aF,bB];simp
 obtain⟨p,hp⟩:=ab k.priv;obtain⟨dp,Cs⟩:=ab k.depth;obtain⟨fg,Dk⟩:=ab k.finger;obtain⟨ch,we⟩:=ab k.child;obtain⟨cn,om⟩:=ab k.chain;obtain⟨da,uF⟩:=ab k.data;have nM:fg.length=4:=by rw[Dk];exact hk.finger
 have db:cn.length=32:=by rw[om];exact hk.chain
 have uQ:da.length=33:=by rw[uF];exact hk.data
 have IM:ch<4294967296:=by rw[we];exact hk.child
 have mG:ba k=.int .u8 (dp.toNat:Int)::(B8 fg++ .int .u32 (ch:Int)::(B8 cn++B8 da)):=by rw[ba,Cs,Dk,we,om,uF]
 have yi:B<W0.heap.size:=aJ aF;have c0:W0.cell? ⟨B,0,none⟩=some (.int .u8 (dp.toNat:Int)):=by rw[aD 0,mG];rfl
 have c5:W0.cell? ⟨B,5,none⟩=some (.int .u32 (ch:Int)):=by
  rw[aD 5,mG,agG,agv (by rw[B8_length,nM];exact af2 _),B8_length,nM];rfl
 obtain⟨q,hq⟩:∃q,q=da[0]'(by rw[uQ];decide):=⟨_,rfl⟩
 have rO:∀(o:Nat) (xs:List UInt8),(∀j (h:j<xs.length),(ba k)[o+j]?=some (.int .u8 (xs[j].toNat:Int)))→∀W,Below W0.heap.size W0 W→Sl W W.heap.size (some ⟨B,o,none⟩) (B8 xs):=fun o xs h W hW _=>⟨B,o,rfl,agq yi hW.size,fun j hj=>by
  rw[(hW.cell (p:=⟨B,o+j,none⟩) yi).trans (aD (o+j)),h j (by simpa using hj),dd]⟩
 have Sf:=aa (rO 1 fg (fun j h=>by
  rw[mG,Nat.add_comm,agG,agK (by simpa using h),age (by simpa using h),dd]))
 have Sc:=aa (rO 6 cn (fun j h=>by
  rw[mG,show 6+j=(5+j)+1 by omega,agG,agv (by rw[B8_length,nM];omega),B8_length,nM,show 5+j-4=j+1 by omega,agG,agK (by simpa using h),age (by simpa using h),dd]))
 have Qm:∀j (h:j<da.length),(ba k)[38+j]?=some (.int .u8 (da[j].toNat:Int)):=fun j h=>by
  rw[mG,show 38+j=(37+j)+1 by omega,agG,agv (by rw[B8_length,nM];omega),B8_length,nM,show 37+j-4=(32+j)+1 by omega,agG,agv (by rw[B8_length,db];omega),B8_length,db,show 32+j-32=j by omega,age (by simpa using h),dd]
 have Sd:=aa (rO 38 da Qm);have c38:W0.cell? ⟨B,38,none⟩=some (.int .u8 (q.toNat:Int)):=by rw[aD 38,hq];exact Qm 0 (by rw[uQ];decide)
 have hpp:((q.toNat:Int)==0)=p:=by
  rw[hp,HKey.priv,agB,←uF,age (by rw[uQ];decide),Option.getD_some,←hq]
  by_cases hz:q=0
  · subst hz;rfl
  rw[af8 hz,beq_eq_false_iff_ne];intro e;exact hz (UInt8.toNat_inj.1 (by show q.toNat=0;omega))
 have xZ:=aa (fun W=>LK ch IM W);obtain⟨C4,Ta⟩:=ab (fF ch);rw[←Ta] at xZ;have nj:Hid (C4.length=4):=aa (by rw[Ta];rfl);have nx:=aa nM;have j9:=aa db;have MB:=aa uQ;obtain⟨L4,Tb⟩:=ab (fF (eb p));have HRe:Hid (eO k=fK (checked (((((L4++[dp])++fg)++C4)++cn)++da))):=aa (by rw[eO,fV,Tb,hp,Cs,Dk,Ta,we,om,uF];simp);obtain⟨R,hR⟩:=ab (eO k);rw[←hR] at HRe⊢;have nG:Hid (L4.length=4):=aa (by rw[Tb];rfl);have HLv:Hid (L4=if p then [4,136,173,228] else [4,136,178,30]):=aa (by rw[Tb];cases p<;>decide);have gJ:=aa aM;have HB:=aa hB;have dh:=aa bL;have HBl:=aa yi;have C0:=aa c0;have C5:=aa c5;have C38:=aa c38;clear aM aF bL hB aD hp Cs Dk we om uF nM db uQ mG yi c0 c5 hq rO Qm Ta Tb hR bB dX;go_enter Tryz.func58,Tryz.ntmps58;have Wk:Hid (∀W,Below W0.heap.size W0 W→W.cell? ⟨B,0,none⟩=some (.int .u8 (dp.toNat:Int))∧W.cell? ⟨B,5,none⟩=some (.int .u32 (ch:Int))∧W.cell? ⟨B,38,none⟩=some (.int .u8 (q.toNat:Int))):=aa fun W hW=>⟨(hW.cell (p:=⟨B,0,none⟩) HBl.out).trans C0.out,(hW.cell (p:=⟨B,5,none⟩) HBl.out).trans C5.out,(hW.cell (p:=⟨B,38,none⟩) HBl.out).trans C38.out⟩
 clear C0 C5 C38;have Hz:Hid (W0.heap.size=w.heap.size+1):=aa (by rw[gJ.out];simp)
 cases p
 · have Il:Below W0.heap.size W0 ((w.alloc (.cells cs 69)).alloc (.cells #[.int .u8 4,.int .u8 136,.int .u8 178,.int .u8 30] 5)):=by rw[←gJ.out];exact(af5 _ _).alloc (af2 _) _
   have fj:Below W0.heap.size W0 ((w.alloc (.cells cs 69)).alloc (.cells #[.int .u8 4,.int .u8 136,.int .u8 178,.int .u8 30] 5)):=Il
   have k1:=(Wk.out _ Il).2.2;have k2:=(Wk.out _ fj).1;rw[HB.out] at k1 k2;have Gc:=Ow.of_row (w:=(w.alloc (.cells cs 69))) (cap:=4) #[.int .u8 4,.int .u8 136,.int .u8 178,.int .u8 30] 5 W0.heap.size (by rw[Hz.out];simp) rfl (by decide) 4 (af2 _)
   have e0:((#[.int .u8 4,.int .u8 136,.int .u8 178,.int .u8 30]:Array Value).toList.take 4)=B8 L4:=by rw[HLv.out];rfl
   rw[e0] at Gc;simp only[agn] at Gc;have vq:=Sl.one ((w.alloc (.cells cs 69)).alloc (.cells #[.int .u8 4,.int .u8 136,.int .u8 178,.int .u8 30] 5)) (.int .u8 (dp.toNat:Int)) 5
   simp only[agn] at vq;have ZD:=aa Gc;have Hs0:=aa vq;have nH:Hid (Below W0.heap.size W0 (((w.alloc (.cells cs 69)).alloc (.cells #[.int .u8 4,.int .u8 136,.int .u8 178,.int .u8 30] 5)).alloc (.cells #[.int .u8 (dp.toNat:Int)] 5))):=aa (fj.alloc (by rw[Hz.out];simp) _)
   clear Il fj Gc e0 vq;go_wp2_with (at_builtin;first|(go_loud (refine aq (m:=4) (c:=4) (base:=W0.heap.size) (xs:=B8 (L4++[dp])) (v:=v3) (A:=some ⟨w.heap.size,1,none⟩) (B:=w3.heap.size) (news:=B8 fg) jf rfl (.tmp 15) (.tmp 17) rfl rfl (sA.out) rfl (by have h:=Sf.out w3 qC.out;rw[HB.out] at h;exact h) (by rw[B8_length];exact nx.out) (aG _) (by simp only[B8_length,agc,agk,nG.out,nx.out,nj.out,j9.out];simp[maxLen]) (by simp only[B8_length,agc,agk,nG.out,nx.out,nj.out,j9.out];decide) (qC.out.size) ?_);intro v5 w5 nO Rz Aa;rw[←bu] at nO;have EF:Hid (Below W0.heap.size W0 w5):=aa ((qC.out).grown Rz (qC.out).size (fun r hr=>(sA.out.row r hr).1));have Ho5:=aa nO;clear nO Rz Aa;have k5:=(Wk.out w5 EF.out).2.1;rw[HB.out] at k5)|(go_loud (refine aq (m:=1) (c:=1) (base:=W0.heap.size) (xs:=B8 (L4)) (v:=.slice (some ⟨w.heap.size+1,0,none⟩) 4 4) (A:=some ⟨w.heap.size+1+1,0,none⟩) (B:=w.heap.size+1+1+1) (news:=[.int .u8 (dp.toNat:Int)]) jf rfl (.tmp 10) (.tmp 13) rfl rfl (ZD.out.alloc _) rfl (Hs0.out) (rfl) (by simp;rfl) (by simp only[B8_length,agc,agk,nG.out,nx.out,nj.out,j9.out];simp[maxLen]) (by simp only[B8_length,agc,agk,nG.out,nx.out,nj.out,j9.out];decide) (nH.out.size) ?_);intro v3 w3 cZ fl j0;rw[dD L4 _ dp rfl] at cZ;have qC:Hid (Below W0.heap.size W0 w3):=aa ((nH.out).grown fl (nH.out).size (fun r hr=>(ZD.out.row r hr).1));have sA:=aa cZ;clear cZ fl j0;clear k1 k2;have k5:=(Wk.out w3 qC.out).2.1;rw[HB.out] at k5;clear k5));refine(xZ.out _).mono ?_;rintro e w6 ⟨v6,rfl,pI,fv⟩;have qN:=aa (EF.out.trans (fv.mono EF.out.size));have Qn:=aa (Ho5.out.below fv (af2 _));obtain⟨A6,c6,rfl,hA6,aa9⟩:=aH pI;rw[nj.out] at pI⊢;have ZE:=aa pI;clear fv pI k5 nH qC sA ZD Hs0;go_wp2_with (at_builtin;first|(go_loud (refine aq (m:=33) (c:=33) (base:=W0.heap.size) (xs:=B8 (L4++[dp]++fg++C4++cn)) (v:=v8) (A:=some ⟨w.heap.size,38,none⟩) (B:=w8.heap.size) (news:=B8 da) jf rfl (.tmp 28) (.tmp 30) rfl rfl (Wl.out) rfl (by have h:=Sd.out w8 uM.out;rw[HB.out] at h;exact h) (by rw[B8_length];exact MB.out) (aG _) (by simp only[B8_length,agc,agk,nG.out,nx.out,nj.out,j9.out];simp[maxLen]) (by simp only[B8_length,agc,agk,nG.out,nx.out,nj.out,j9.out];decide) (uM.out.size) ?_);intro v9 w9 pJ OF hr9;rw[←bu] at pJ;have HB9:Hid (Below W0.heap.size W0 w9):=aa ((uM.out).grown OF (uM.out).size (fun r hr=>(Wl.out.row r hr).1));have Wm:=aa pJ;clear pJ OF hr9)|(go_loud (refine aq (m:=32) (c:=32) (base:=W0.heap.size) (xs:=B8 (L4++[dp]++fg++C4)) (v:=v7) (A:=some ⟨w.heap.size,6,none⟩) (B:=w7.heap.size) (news:=B8 cn) jf rfl (.tmp 24) (.tmp 26) rfl rfl (Ho7.out) rfl (by have h:=Sc.out w7 yr.out;rw[HB.out] at h;exact h) (by rw[B8_length];exact j9.out) (aG _) (by simp only[B8_length,agc,agk,nG.out,nx.out,nj.out,j9.out];simp[maxLen]) (by simp only[B8_length,agc,agk,nG.out,nx.out,nj.out,j9.out];decide) (yr.out.size) ?_);intro v8 w8 Dl OE Vp;rw[←bu] at Dl;have uM:Hid (Below W0.heap.size W0 w8):=aa ((yr.out).grown OE (yr.out).size (fun r hr=>(Ho7.out.row r hr).1));have Wl:=aa Dl;clear Dl OE Vp)|(go_loud (refine aq (m:=4) (c:=c6) (base:=W0.heap.size) (xs:=B8 (L4++[dp]++fg)) (v:=v5) (A:=A6) (B:=w6.heap.size) (news:=B8 C4) jf rfl (.tmp 19) (.tmp 22) rfl rfl (Qn.out) rfl (ZE.out.sl) (by rw[B8_length];exact nj.out) (aG _) (by simp only[B8_length,agc,agk,nG.out,nx.out,nj.out,j9.out];simp[maxLen]) (by simp only[B8_length,agc,agk,nG.out,nx.out,nj.out,j9.out];decide) (qN.out.size) ?_);intro v7 w7 AL Yp hr7;rw[←bu] at AL;have yr:Hid (Below W0.heap.size W0 w7):=aa ((qN.out).grown Yp (qN.out).size (fun r hr=>(Qn.out.row r hr).1));have Ho7:=aa AL;clear AL Yp hr7));have wg:(L4++[dp]++fg++C4++cn++da).length=78:=by simp only[agc,agk,nG.out,nx.out,nj.out,j9.out,MB.out]
   obtain⟨A9,c9,rfl,hA9,OG⟩:=aH Wm.out;have eX:=r9 A9 c9 _ w9 Wm.out.sl (by rw[wg];omega) hA9 OG;rw[wg] at eX⊢;rw[←HRe.out] at eX;refine eX.mono ?_;rintro e wm ⟨rfl,ta⟩;have iQ:=aa (dh.out.trans ((HB9.out.trans (ta.mono HB9.out.size)).mono dh.out.size));clear eX ta wg;go_wp2_with fail;go_ret;exact⟨rfl,iQ.out⟩
 have Il:Below W0.heap.size W0 ((w.alloc (.cells cs 69)).alloc (.cells #[.int .u8 4,.int .u8 136,.int .u8 178,.int .u8 30] 5)):=by rw[←gJ.out];exact(af5 _ _).alloc (af2 _) _
 have fj:Below W0.heap.size W0 (((w.alloc (.cells cs 69)).alloc (.cells #[.int .u8 4,.int .u8 136,.int .u8 178,.int .u8 30] 5)).alloc (.cells #[.int .u8 4,.int .u8 136,.int .u8 173,.int .u8 228] 5)):=Il.alloc (by rw[gJ.out];simp) _
 have k1:=(Wk.out _ Il).2.2;have k2:=(Wk.out _ fj).1;rw[HB.out] at k1 k2;have Gc:=Ow.of_row (w:=((w.alloc (.cells cs 69)).alloc (.cells #[.int .u8 4,.int .u8 136,.int .u8 178,.int .u8 30] 5))) (cap:=4) #[.int .u8 4,.int .u8 136,.int .u8 173,.int .u8 228] 5 W0.heap.size (by rw[Hz.out];simp) rfl (by decide) 4 (af2 _)
 have e0:((#[.int .u8 4,.int .u8 136,.int .u8 173,.int .u8 228]:Array Value).toList.take 4)=B8 L4:=by rw[HLv.out];rfl
 rw[e0] at Gc;simp only[agn] at Gc;have vq:=Sl.one (((w.alloc (.cells cs 69)).alloc (.cells #[.int .u8 4,.int .u8 136,.int .u8 178,.int .u8 30] 5)).alloc (.cells #[.int .u8 4,.int .u8 136,.int .u8 173,.int .u8 228] 5)) (.int .u8 (dp.toNat:Int)) 5
 simp only[agn] at vq;have ZD:=aa Gc;have Hs0:=aa vq;have nH:Hid (Below W0.heap.size W0 ((((w.alloc (.cells cs 69)).alloc (.cells #[.int .u8 4,.int .u8 136,.int .u8 178,.int .u8 30] 5)).alloc (.cells #[.int .u8 4,.int .u8 136,.int .u8 173,.int .u8 228] 5)).alloc (.cells #[.int .u8 (dp.toNat:Int)] 5))):=aa (fj.alloc (by rw[Hz.out];simp) _)
 clear Il fj Gc e0 vq;go_wp2_with (at_builtin;first|(go_loud (refine aq (m:=4) (c:=4) (base:=W0.heap.size) (xs:=B8 (L4++[dp])) (v:=v3) (A:=some ⟨w.heap.size,1,none⟩) (B:=w3.heap.size) (news:=B8 fg) jf rfl (.tmp 15) (.tmp 17) rfl rfl (sA.out) rfl (by have h:=Sf.out w3 qC.out;rw[HB.out] at h;exact h) (by rw[B8_length];exact nx.out) (aG _) (by simp only[B8_length,agc,agk,nG.out,nx.out,nj.out,j9.out];simp[maxLen]) (by simp only[B8_length,agc,agk,nG.out,nx.out,nj.out,j9.out];decide) (qC.out.size) ?_);intro v5 w5 nO Rz Aa;rw[←bu] at nO;have EF:Hid (Below W0.heap.size W0 w5):=aa ((qC.out).grown Rz (qC.out).size (fun r hr=>(sA.out.row r hr).1));have Ho5:=aa nO;clear nO Rz Aa;have k5:=(Wk.out w5 EF.out).2.1;rw[HB.out] at k5)|(go_loud (refine aq (m:=1) (c:=1) (base:=W0.heap.size) (xs:=B8 (L4)) (v:=.slice (some ⟨w.heap.size+1+1,0,none⟩) 4 4) (A:=some ⟨w.heap.size+1+1+1,0,none⟩) (B:=w.heap.size+1+1+1+1) (news:=[.int .u8 (dp.toNat:Int)]) jf rfl (.tmp 10) (.tmp 13) rfl rfl (ZD.out.alloc _) rfl (Hs0.out) (rfl) (by simp;rfl) (by simp only[B8_length,agc,agk,nG.out,nx.out,nj.out,j9.out];simp[maxLen]) (by simp only[B8_length,agc,agk,nG.out,nx.out,nj.out,j9.out];decide) (nH.out.size) ?_);intro v3 w3 cZ fl j0;rw[dD L4 _ dp rfl] at cZ;have qC:Hid (Below W0.heap.size W0 w3):=aa ((nH.out).grown fl (nH.out).size (fun r hr=>(ZD.out.row r hr).1));have sA:=aa cZ;clear cZ fl j0;clear k1 k2;have k5:=(Wk.out w3 qC.out).2.1;rw[HB.out] at k5;clear k5));refine(xZ.out _).mono ?_;rintro e w6 ⟨v6,rfl,pI,fv⟩;have qN:=aa (EF.out.trans (fv.mono EF.out.size));have Qn:=aa (Ho5.out.below fv (af2 _));obtain⟨A6,c6,rfl,hA6,aa9⟩:=aH pI;rw[nj.out] at pI⊢;have ZE:=aa pI;clear fv pI k5 nH qC sA ZD Hs0;go_wp2_with (at_builtin;first|(go_loud (refine aq (m:=33) (c:=33) (base:=W0.heap.size) (xs:=B8 (L4++[dp]++fg++C4++cn)) (v:=v8) (A:=some ⟨w.heap.size,38,none⟩) (B:=w8.heap.size) (news:=B8 da) jf rfl (.tmp 28) (.tmp 30) rfl rfl (Wl.out) rfl (by have h:=Sd.out w8 uM.out;rw[HB.out] at h;exact h) (by rw[B8_length];exact MB.out) (aG _) (by simp only[B8_length,agc,agk,nG.out,nx.out,nj.out,j9.out];simp[maxLen]) (by simp only[B8_length,agc,agk,nG.out,nx.out,nj.out,j9.out];decide) (uM.out.size) ?_);intro v9 w9 pJ OF hr9;rw[←bu] at pJ;have HB9:Hid (Below W0.heap.size W0 w9):=aa ((uM.out).grown OF (uM.out).size (fun r hr=>(Wl.out.row r hr).1));have Wm:=aa pJ;clear pJ OF hr9)|(go_loud (refine aq (m:=32) (c:=32) (base:=W0.heap.size) (xs:=B8 (L4++[dp]++fg++C4)) (v:=v7) (A:=some ⟨w.heap.size,6,none⟩) (B:=w7.heap.size) (news:=B8 cn) jf rfl (.tmp 24) (.tmp 26) rfl rfl (Ho7.out) rfl (by have h:=Sc.out w7 yr.out;rw[HB.out] at h;exact h) (by rw[B8_length];exact j9.out) (aG _) (by simp only[B8_length,agc,agk,nG.out,nx.out,nj.out,j9.out];simp[maxLen]) (by simp only[B8_length,agc,agk,nG.out,nx.out,nj.out,j9.out];decide) (yr.out.size) ?_);intro v8 w8 Dl OE Vp;rw[←bu] at Dl;have uM:Hid (Below W0.heap.size W0 w8):=aa ((yr.out).grown OE (yr.out).size (fun r hr=>(Ho7.out.row r hr).1));have Wl:=aa Dl;clear Dl OE Vp)|(go_loud (refine aq (m:=4) (c:=c6) (base:=W0.heap.size) (xs:=B8 (L4++[dp]++fg)) (v:=v5) (A:=A6) (B:=w6.heap.size) (news:=B8 C4) jf rfl (.tmp 19) (.tmp 22) rfl rfl (Qn.out) rfl (ZE.out.sl) (by rw[B8_length];exact nj.out) (aG _) (by simp only[B8_length,agc,agk,nG.out,nx.out,nj.out,j9.out];simp[maxLen]) (by simp only[B8_length,agc,agk,nG.out,nx.out,nj.out,j9.out];decide) (qN.out.size) ?_);intro v7 w7 AL Yp hr7;rw[←bu] at AL;have yr:Hid (Below W0.heap.size W0 w7):=aa ((qN.out).grown Yp (qN.out).size (fun r hr=>(Qn.out.row r hr).1));have Ho7:=aa AL;clear AL Yp hr7));have wg:(L4++[dp]++fg++C4++cn++da).length=78:=by simp only[agc,agk,nG.out,nx.out,nj.out,j9.out,MB.out]
 obtain⟨A9,c9,rfl,hA9,OG⟩:=aH Wm.out;have eX:=r9 A9 c9 _ w9 Wm.out.sl (by rw[wg];omega) hA9 OG;rw[wg] at eX⊢;rw[←HRe.out] at eX;refine eX.mono ?_;rintro e wm ⟨rfl,ta⟩;have iQ:=aa (dh.out.trans ((HB9.out.trans (ta.mono HB9.out.size)).mono dh.out.size));clear eX ta wg;go_wp2_with fail;go_ret;exact⟨rfl,iQ.out⟩
def EG (V i:Nat):List Nat:=(nu 8 (V/2)).take i++(nu 8 V).drop i
theorem xS (V i:Nat) (h:i≤8):(EG V i).length=8:=by rw[EG,agc,agj,agD,aS,aS];omega
theorem QG (V:Nat):EG V 0=nu 8 V:=by simp[EG]
theorem QH (V:Nat):EG V 8=nu 8 (V/2):=by
 rw[EG,af7 (by rw[aS];exact af2 _),List.drop_eq_nil_of_le (by rw[aS];exact af2 _),List.append_nil]
theorem QI (V i j:Nat) (hij:i≤j) (hj:j<8) (h:j<(EG V i).length):(EG V i)[j]=V/2^(32*j)%4294967296:=by
 have hl:((nu 8 (V/2)).take i).length=i:=by rw[agj,aS];omega
 rw[←Jk 8 V j (by rw[aS];exact hj)]
 have e:(EG V i)[j]?=(nu 8 V)[j]?:=by
  unfold EG;rw[agv (by omega),List.getElem?_drop];congr 1;omega
 rw[age h,age (by rw[aS];exact hj)] at e;exact Option.some.inj e
theorem Ux (V i u:Nat) (hi:i<8):((EG V i).set i u).set i (V/2/2^(32*i)%4294967296)=EG V (i+1):=by
 have hl:((nu 8 (V/2)).take i).length=i:=by rw[agj,aS];omega
 have hi2:i<(nu 8 (V/2)).length:=by rw[aS];exact hi
 have hi3:i<(nu 8 V).length:=by rw[aS];exact hi
 rw[List.set_set];unfold EG;rw[List.set_append_right _ _ (by omega),hl,Nat.sub_self,List.drop_eq_getElem_cons hi3,List.set_cons_zero,agh hi2,Jk,agL];rfl
theorem En (V i:Nat):V/2/2^(32*i)%4294967296=V/2^(32*i)%4294967296/2+(if V/2^(32*(i+1))%4294967296%2=1 then 2147483648 else 0):=by
 have e1:V/2/2^(32*i)=V/2^(32*i)/2:=by rw[Nat.div_div_eq_div_mul,Nat.div_div_eq_div_mul,Nat.mul_comm]
 have e2:V/2^(32*(i+1))=V/2^(32*i)/4294967296:=by rw[Wb,Nat.mul_comm 4294967296,←Nat.div_div_eq_div_mul]
 rw[e1,e2];generalize V/2^(32*i)=q;split<;>omega
theorem QJ (V:Nat) (h:V<2^256):V/2/2^(32*7)%4294967296=V/2^(32*7)%4294967296/2:=by
 rw[En];have:V/2^(32*(7+1))=0:=Nat.div_eq_of_lt h;rw[this];rfl
def Rws (W:World) (l:List (Nat×Nat)):Prop:=∀p∈l,W.heap[p.1]?=some (.cells (R8 p.2) 121 (0,0))
theorem Rws.below {W W':World} {l:List (Nat×Nat)} (h:Rws W l) (hb:Below W.heap.size W W'):Rws W' l:=fun p hp=>(hb.block _ (aJ (h p hp))).trans (h p hp)
theorem Rws.nil (W:World):Rws W []:=fun p hp=>by cases hp
theorem Rws.cons {W:World} {l:List (Nat×Nat)} {g n:Nat} (h:Rws W l) (hg:W.heap[g]?=some (.cells (R8 n) 121 (0,0))):Rws W ((g,n)::l):=fun p hp=>by
 rcases List.mem_cons.1 hp with rfl|hp
 · exact hg
 exact h p hp
theorem Rws.tail {W:World} {l:List (Nat×Nat)} {q:Nat×Nat} (h:Rws W (q::l)):Rws W l:=fun p hp=>h p (List.mem_cons_of_mem _ hp)
theorem Rws.grown {W W':World} {l:List (Nat×Nat)} {g:Nat} (h:Rws W l) (hg:W.grownBy W' (some g)) (dt:∀p∈l,p.1<g):Rws W' l:=fun p hp=>(hg.block _ (aJ (h p hp)) (by have:=dt p hp;simp;omega)).trans (h p hp)
theorem Rws.setRow {W:World} {l:List (Nat×Nat)} {g n m:Nat} (h:Rws W ((g,n)::l)) (dt:∀p∈l,p.1<g):Rws (W.setRow g (R8 m)) ((g,m)::l):=fun p hp=>by
 rcases List.mem_cons.1 hp with rfl|hp
 · exact agd _ _ _ _ _ _ (h (g,n) (.head _))
 exact(setRow_other W g p.1 (R8 m) (by have:=dt p hp;omega)).trans (h p (List.mem_cons_of_mem _ hp))
theorem Rws.alloc {W:World} {l:List (Nat×Nat)} (h:Rws W l) (n:Nat):Rws (W.alloc (.cells (R8 n) 121)) ((W.heap.size,n)::l):=by
 refine Rws.cons (h.below ((af5 _ _).alloc (af2 _) _)) ?_;exact af4 W _
theorem Rws.lt {W:World} {l:List (Nat×Nat)} (h:Rws W l):∀p∈l,p.1<W.heap.size:=fun p hp=>aJ (h p hp)
theorem Uy {a b:Nat} (ha:a<2^256) (hb:b<2^256) (h:nu 8 a=nu 8 b):a=b:=by
 have:=congrArg wu h;rwa [lk 8 a ha,lk 8 b hb] at this
theorem QK (n:Nat):R8 n=(((nu 8 n).map (fun n:Nat=>(n:Int))).map (Value.int .u32)).toArray:=by rw[R8,cL,List.map_map];rfl
theorem BJ {a b:Nat} (ha:a<2^256) (hb:b<2^256):decide ((nu 8 a).map (fun n:Nat=>(n:Int))=(nu 8 b).map (fun n:Nat=>(n:Int)))=decide (a=b):=by
 have:((nu 8 a).map (fun n:Nat=>(n:Int))=(nu 8 b).map (fun n:Nat=>(n:Int)))↔a=b:=by
  constructor
  · intro h
    exact Uy ha hb ((List.map_inj_right (fun a b wI=>by exact Int.ofNat.inj wI)).1 h)
  rintro rfl;rfl
 by_cases h:a=b
 · rw[af9 (this.2 h),af9 h]
 rw[af8 (fun e=>h (this.1 e)),af8 h]
structure LA (w W:World) (G:Nat) (Z:Array Value) (l:List (Nat×Nat)):Prop where
 hG:w.heap.size≤G
 hb:Below w.heap.size w W
 rr:W.heap[G+1]?=some (.cells Z 123 (0,0))
 rows:Rws W l
 srt:l.Pairwise (fun a b=>b.1<a.1)
 low:∀p∈l,w.heap.size≤p.1∧p.1≠G+1
theorem LA.below {w W W':World} {G:Nat} {Z:Array Value} {l:List (Nat×Nat)} (h:LA w W G Z l) (hb:Below W.heap.size W W'):LA w W' G Z l:=
 ⟨h.hG,h.hb.trans (hb.mono h.hb.size),(hb.block _ (aJ h.rr)).trans h.rr,h.rows.below hb,h.srt,h.low⟩
theorem LA.new {w W:World} {G:Nat} {Z:Array Value} {l:List (Nat×Nat)} (h:LA w W G Z l) (n:Nat):LA w (W.alloc (.cells (R8 n) 121)) G Z ((W.heap.size,n)::l):=by
 have aZ:Below W.heap.size W (W.alloc (.cells (R8 n) 121)):=(af5 _ _).alloc (af2 _) _;refine⟨h.hG,h.hb.trans (aZ.mono h.hb.size),(aZ.block _ (aJ h.rr)).trans h.rr,h.rows.alloc n,List.pairwise_cons.2 ⟨fun p hp=>h.rows.lt p hp,h.srt⟩,fun p hp=>?_⟩;rcases List.mem_cons.1 hp with rfl|hp
 · have h1:=aJ h.rr
   exact⟨h.hb.size,by show W.heap.size≠G+1;omega⟩
 exact h.low p hp
theorem LA.set {w W:World} {G g n:Nat} {Z:Array Value} {l:List (Nat×Nat)} (h:LA w W G Z ((g,n)::l)) (m:Nat):LA w (W.setRow g (R8 m)) G Z ((g,m)::l):=
 ⟨h.hG,ah h.hb (h.low (g,n) (.head _)).1 _,(setRow_other W g (G+1) (R8 m) (fun e=>(h.low (g,n) (.head _)).2 e.symm)).trans h.rr,h.rows.setRow (fun p hp=>(List.pairwise_cons.1 h.srt).1 p hp),
  List.pairwise_cons.2 ⟨(List.pairwise_cons.1 h.srt).1,(List.pairwise_cons.1 h.srt).2⟩,fun p hp=>by
   rcases List.mem_cons.1 hp with rfl|hp
   · exact h.low (g,n) (.head _)
   exact h.low p (List.mem_cons_of_mem _ hp)⟩
theorem LA.grown {w W W':World} {G g n m:Nat} {Z:Array Value} {l:List (Nat×Nat)} (h:LA w W G Z ((g,n)::l)) (hg:W.grownBy W' (some g)) (hr:W'.heap[g]?=some (.cells (R8 m) 121 (0,0))):LA w W' G Z ((g,m)::l):=
 ⟨h.hG,h.hb.grown hg h.hb.size (fun _ e=>by cases e;exact(h.low (g,n) (.head _)).1),(hg.block (G+1) (aJ h.rr) (by have:=(h.low (g,n) (.head _)).2;simp only[Option.some.injEq,ne_eq];omega)).trans h.rr,
  Rws.cons (h.rows.tail.grown hg (fun p hp=>(List.pairwise_cons.1 h.srt).1 p hp)) hr,List.pairwise_cons.2 ⟨(List.pairwise_cons.1 h.srt).1,(List.pairwise_cons.1 h.srt).2⟩,fun p hp=>by
   rcases List.mem_cons.1 hp with rfl|hp
   · exact h.low (g,n) (.head _)
   exact h.low p (List.mem_cons_of_mem _ hp)⟩
theorem LA.at_ {w W:World} {G g n:Nat} {Z:Array Value} {l:List (Nat×Nat)} (h:LA w W G Z l) (hm:(g,n)∈l):W.heap[g]?=some (.cells (R8 n) 121 (0,0)):=h.rows (g,n) hm
end Go.Proofs.YtcjioogololnoaaGreatDoor
