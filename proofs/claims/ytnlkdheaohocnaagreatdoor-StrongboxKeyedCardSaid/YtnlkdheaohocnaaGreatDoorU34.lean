/- Whoever walks down with the secret signs what whoever walks down without it verifies, and the text of either walks the same way (StrongboxKeyed). No condition. -/
import Derived.Test.YtnlkdheaohocnaaGreatDoorU1
import Derived.Test.YtnlkdheaohocnaaGreatDoorU33
import Derived.Test.YtnlkdheaohocnaaGreatDoorU21
import Derived.Test.YtnlkdheaohocnaaGreatDoorU23
set_option maxRecDepth 1000000
set_option maxHeartbeats 16000000
set_option linter.unusedVariables false
set_option linter.unusedSimpArgs false
namespace Go.Proofs.YtnlkdheaohocnaaGreatDoor
open Go Go.RowKit Go.Shelf
theorem ET (e i:Nat):e/2^(32*(i/32))%4294967296/2^(i%32)%2=e/2^i%2:=by
 have h1:e/2^i=e/2^(32*(i/32))/2^(i%32):=by
  rw[Nat.div_div_eq_div_mul,←Nat.pow_add,Nat.div_add_mod]
 rw[h1];generalize e/2^(32*(i/32))=x;have hr:i%32<32:=Nat.mod_lt _ (by decide);generalize i%32=r at hr⊢;have e1:(4294967296:Nat)=2^r*2^(32-r):=by rw[←Nat.pow_add,show r+(32-r)=32 by omega]
 rw[e1,Nat.mod_mul_right_div_self];have e2:(2:Nat)^(32-r)=2*2^(31-r):=by rw[show 32-r=(31-r)+1 by omega,Nat.pow_succ,Nat.mul_comm]
 rw[e2,Nat.mod_mul_right_mod]
theorem Cv:∀(k n j:Nat) (h:j<(nu k n).length),(nu k n)[j]=n/2^(32*j)%4294967296
 |0,n,j,h=>by simp[nu] at h
 |k+1,n,0,h=>by simp[nu]
 |k+1,n,j+1,h=>by
  have h':j<(nu k (n/4294967296)).length:=by rw[nu,adz] at h;omega
  show (nu k (n/4294967296))[j]=_;rw[Cv k _ j h',Rl,Nat.div_div_eq_div_mul]
def eT (b:List UInt8) (k j:Nat):Nat:=bB (((b.take k).drop (4*(7-j))).take 4)
def dC (b:List UInt8) (k:Nat):List Nat:=[eT b k 0,eT b k 1,eT b k 2,eT b k 3,eT b k 4,eT b k 5,eT b k 6,eT b k 7]
theorem EU (b:List UInt8) (j:Nat):eT b 0 j=0:=by simp[eT,bB]
theorem Jo (b:List UInt8) (k:Nat) (hk:k<32) (hb:k<b.length):eT b (k+1) (7-k/4)=eT b k (7-k/4)*256+b[k].toNat:=by
 have e:4*(7-(7-k/4))=4*(k/4):=by omega
 have hd:((b.take k).drop (4*(k/4))).length=k-4*(k/4):=by rw[adH,adq];omega
 have h1:((b.take (k+1)).drop (4*(k/4))).take 4=(b.take k).drop (4*(k/4))++[b[k]]:=by
  rw[adK hb,List.drop_append_of_le_length (by rw[adq];omega)];exact ady (by rw[adv,hd,List.length_singleton];omega)
 have h2:((b.take k).drop (4*(k/4))).take 4=(b.take k).drop (4*(k/4)):=ady (by rw[hd];omega);unfold eT;rw[e,h1,h2,qa]
theorem Jp (b:List UInt8) (k j:Nat) (hk:k<32) (hj:j<8) (hb:k<b.length) (bN:j≠7-k/4):eT b (k+1) j=eT b k j:=by
 unfold eT;congr 1;rw[adK hb];rcases (show 4*(7-j)+4≤k∨k+1≤4*(7-j) by omega) with h|h
 · rw[List.drop_append_of_le_length (by rw[adq];omega),List.take_append_of_le_length (by rw[adH,adq];omega)]
 rw[List.drop_of_length_le (by rw[adv,adq];simp;omega),List.drop_of_length_le (by rw[adq];omega)]
theorem M2 (b:List UInt8) (k:Nat) (hk:k<32) (hb:k<b.length):eT b k (7-k/4)<16777216:=by
 unfold eT;refine ads (fV _) ?_;rw[show (16777216:Nat)=256^3 by decide];exact Nat.pow_le_pow_right (by decide) (by rw[adq,adH,adq];omega)
theorem Jq (b:List UInt8) (k j:Nat):eT b k j<4294967296:=by
 unfold eT;refine ads (fV _) ?_;rw[show (4294967296:Nat)=256^4 by decide];exact Nat.pow_le_pow_right (by decide) (by rw[adq];omega)
theorem r7 (b:List UInt8) (k j:Nat) (hj:j<8) (h:j<(dC b k).length):(dC b k)[j]=eT b k j:=by
 rcases (show j=0∨j=1∨j=2∨j=3∨j=4∨j=5∨j=6∨j=7 by omega) with rfl|rfl|rfl|rfl|rfl|rfl|rfl|rfl<;>rfl
theorem EV (b:List UInt8) (k:Nat) (hk:k<32) (hb:k<b.length):(dC b k).set (7-k/4) (eT b (k+1) (7-k/4))=dC b (k+1):=by
 apply List.ext_getElem (by simp[dC]);intro j h1 h2;have hj:j<8:=by simpa [dC] using h2
 rw[List.getElem_set,r7 b (k+1) j hj];split
 · next h=>rw[h]
 next h=>rw[r7 b k j hj,Jp b k j hk hj hb (fun e=>h e.symm)]
def vk:Nat→List UInt8→List Nat
 |0,_=>[]
 |m+1,l=>vk m (l.drop 4)++[bB (l.take 4)]
theorem qL:∀m l,(vk m l).length=m
 |0,_=>rfl
 |m+1,l=>by rw[vk,adv,qL];rfl
theorem Cw:∀(m:Nat) (l:List UInt8),l.length=4*m→wu (vk m l)=bB l
 |0,l,h=>by
  obtain rfl:l=[]:=by simpa using h
  rfl
 |m+1,l,h=>by
  conv=>rhs;rw[←List.take_append_drop 4 l]
  rw[kt,vk,mh,qL,Cw m _ (by rw[adH];omega),adH]
  have e:(256:Nat)^(l.length-4)=2^(32*m):=by
   rw[show l.length-4=4*m by omega,show (256:Nat)=2^8 by decide,←Nat.pow_mul];congr 1;omega
  rw[e];simp only[wu];rw[Nat.mul_zero,Nat.add_zero,Nat.mul_comm,Nat.add_comm]
theorem EW (b:List UInt8) (hl:b.length=32):dC b 32=nu 8 (bB b):=by
 have ht:b.take 32=b:=ady (by omega)
 have hw:dC b 32=vk 8 b:=by
  simp only[dC,eT,ht,vk,List.drop_drop,adj,adh];have h0:b.take 4=(b.drop 0).take 4:=rfl;rw[h0]
 have hv:wu (dC b 32)=bB b:=by rw[hw];exact Cw 8 b (by omega)
 rw[←hv];refine(Gi (dC b 32) ?_).symm;simp only[dC,List.mem_cons,List.not_mem_nil,or_false];rintro x (rfl|rfl|rfl|rfl|rfl|rfl|rfl|rfl)<;>exact Jq _ _ _
theorem zm (w:World):Calls Tryz.prog 87 #[] w fun e W'=>e=.returned (.agg (R8 ak))∧Below w.heap.size w W':=by
 have hR:R8 ak=#[.int .u32 4294966319,.int .u32 4294967294,.int .u32 4294967295,.int .u32 4294967295,.int .u32 4294967295,.int .u32 4294967295,.int .u32 4294967295,.int .u32 4294967295]:=by kernel_rfl
 go_enter Tryz.func87,Tryz.ntmps87;go_wp2_with fail;refine adm (v:=.agg (R8 ak)) ?_ rfl ⟨rfl,(adl _ w).alloc (adi _) _⟩;rw[hR];exact adr rfl _ _ w.heap.size 92 _ (0,0) _ rfl (adk w _) Tryz.underlying92 rfl vj
theorem Cx (x i:Nat) (hx:x<2^256) (hi:i<256) (w:World):Calls Tryz.prog 94 #[.agg (R8 x),.int .i64 i] w fun e W'=>e=.returned (.bool (decide (x/2^i%2=1)))∧Below w.heap.size w W':=by
 obtain⟨X,hX⟩:=ae (nu 8 x);have wO:Hid (X.length=8):=ab (by rw[hX,bg]);have hq:i/32<X.length:=by rw[wO.out];omega
 obtain⟨v,hv⟩:∃v,v=X[i/32]:=⟨_,rfl⟩
 have hb:v/2^(i%32)%2=x/2^i%2:=by
  rw[←ET x i,hv];subst hX;rw[Cv]
 rw[R8,←hX];obtain⟨A,hA⟩:∃A,A=(dB X).toArray:=⟨_,rfl⟩;rw[←hA];have gX:=adk w (.cells A 92);rw[hA] at gX;have cX:=cf gX hq;rw[←hv,←hA] at cX;have qI:Hid (Below w.heap.size w (w.alloc (.cells A 92))):=ab ((adl _ w).alloc (adi _) _)
 have hbI:(((v:Int)/2^(i%32)).tmod 2==1)=decide (x/2^i%2=1):=by
  rw[←hb];have e:((v:Int)/2^(i%32))=((v/2^(i%32):Nat):Int):=by push_cast;rfl
  rw[e,Int.tmod_eq_emod_of_nonneg (Int.natCast_nonneg _)]
  by_cases h:v/2^(i%32)%2=1
  · rw[adA h]
    exact beq_iff_eq.2 (by omega)
  rw[adI h];exact beq_eq_false_iff_ne.2 (by omega)
 have HbI:=ab hbI;clear hA gX hX hv hb hbI;go_enter Tryz.func94,Tryz.ntmps94;go_wp2_with fail;go_ret;exact⟨by rw[←HbI.out];rfl,qI.out⟩
theorem zn (w:World):Calls Tryz.prog 46 #[] w fun e W'=>e=.returned (.agg (R8 ar))∧Below w.heap.size w W':=by
 have hR:R8 ar=#[.int .u32 3493216577,.int .u32 3218235020,.int .u32 2940772411,.int .u32 3132021990,.int .u32 4294967294,.int .u32 4294967295,.int .u32 4294967295,.int .u32 4294967295]:=by kernel_rfl
 go_enter Tryz.func46,Tryz.ntmps46;go_wp2_with fail;refine adm (v:=.agg (R8 ar)) ?_ rfl ⟨rfl,(adl _ w).alloc (adi _) _⟩;rw[hR];exact adr rfl _ _ w.heap.size 92 _ (0,0) _ rfl (adk w _) Tryz.underlying92 rfl vj
theorem vl (x:Nat) (hx:x<2^256) (w:World):Calls Tryz.prog 44 #[.agg (R8 x)] w fun e W'=>e=.returned (.bool (decide (x≠0)&&decide (x<ar)))∧Below w.heap.size w W':=by
 have bx:Tryz.prog.follows .mixedOrders=true:=by kernel_rfl
 obtain⟨X,hX⟩:=ae (nu 8 x);have wO:Hid (X.length=8):=ab (by rw[hX,bg])
 have h0:(!decide (X.map (fun n:Nat=>(n:Int))=(nu 8 0).map (fun n:Nat=>(n:Int))))=decide (x≠0):=by
  rw[hX]
  have:((nu 8 x).map (fun n:Nat=>(n:Int))=(nu 8 0).map (fun n:Nat=>(n:Int)))↔x=0:=by
   constructor
   · intro h
     have h2:=(List.map_inj_right (fun a b Ih=>by exact Int.ofNat.inj Ih)).1 h;have:=congrArg wu h2;rwa [lA 8 x hx,lA 8 0 (by decide)] at this
   rintro rfl;rfl
  by_cases xi:x=0
  · rw[adA (this.2 xi),adI (by simpa using xi)];rfl
  rw[adI (fun h=>xi (this.1 h)),adA xi];rfl
 have yr:∀T:List Nat,(dB T).toArray=((T.map (fun n:Nat=>(n:Int))).map (Value.int .u32)).toArray:=fun T=>by rw[dB,List.map_map];rfl
 have hL:=nS x ar hx (by decide+kernel);rw[R8,←hX] at hL⊢;obtain⟨A,hA⟩:∃A,A=(dB X).toArray:=⟨_,rfl⟩;rw[←hA] at hL⊢;have HA:=ab hA;have HL:=ab hL;have H0:=ab h0;have WW:=ab yr;have nn:Hid ((Tryz.prog.info? 92).map (·.size)=some A.size):=ab (by rw[hA];exact zl wO.out);obtain⟨W0,bD⟩:=ae (w.alloc (.cells A 92));have qI:Hid (Below w.heap.size w W0):=ab (by rw[bD];exact(adl _ w).alloc (adi _) _);have G0:Hid (W0.heap[w.heap.size]?=some (.cells A 92 (0,0))):=ab (by rw[bD];exact adk w _);have wC:=ab bD;clear bD hA hX h0 hL yr;go_enter Tryz.func44,Tryz.ntmps44;go_wp2_with fail;refine(show W0=_ from wC.out)▸?_;refine aE [(0,1),(1,2),(2,0),(3,0),(4,1),(5,2),(6,2),(7,0),(8,0)] 9 bx (by kernel_rfl) (by intro c a d v w h;cases d<;>exact h) ?_;refine ia rfl rfl 92 (.tmp 1) rfl w.heap.size rfl 92 A (0,0) _ G0.out Tryz.underlying92 rfl nn.out ?_;refine ah rfl rfl (fun K hK=>?_);go_wp2_with fail;refine⟨.inr (Ext.refl _),?_⟩;refine Ev .neq (.tmp 3) (.tmp 4) 92 _ _ .u32 8 (X.map (fun n:Nat=>(n:Int))) ((nu 8 0).map (fun n:Nat=>(n:Int))) (decide (x≠0)) rfl rfl rfl (by rw[←WW.out X];exact congrArg Value.agg HA.out) rfl Tryz.underlying92 Tryz.underlying27 (by kernel_rfl) (by kernel_rfl) (by kernel_rfl) (by rw[List.length_map,wO.out]) (by kernel_rfl) (.inr ⟨rfl,H0.out⟩) ?_
 by_cases xi:x=0
 · rw[adI (show¬(x≠0) from fun h=>h xi)]
   repeat ((first|(refine ao rfl (fun K hK=>?_))|(refine aD rfl (fun K hK=>?_)));go_simp;(first|(refine hK _ ?_) );clear hK K;(try go_bits))
   refine ln rfl (by rfl) ?_;refine ln rfl (by rfl) ?_
   repeat ((first|(refine ao rfl (fun K hK=>?_)) );go_simp;(first|(refine hK _ ?_) );clear hK K;(try go_bits))
   refine aB ?_;go_wp2_with fail;go_ret;exact⟨(show Ending.returned (.bool false)=_ from by rw[adI (show¬(x≠0) from fun h=>h xi),Bool.false_and]),qI.out.drew⟩
 rw[adA (show x≠0 from xi)]
 repeat ((first|(refine ao rfl (fun K hK=>?_))|(refine aD rfl (fun K hK=>?_)));go_simp;(first|(refine hK _ ?_) );clear hK K;(try go_bits))
 refine cP rfl (by rfl) 92 (.tmp 1) rfl w.heap.size rfl 92 A (0,0) _ G0.out Tryz.underlying92 rfl nn.out ?_;refine gv rfl (by rfl) (fun K hK=>?_);go_wp2_with fail;refine(zn _).mono ?_;rintro e w3 ⟨rfl,b5⟩;go_wp2_with fail;refine⟨.inr (av b5),?_⟩;refine gv rfl (by rfl) (fun K hK=>?_);go_wp2_with fail;refine(HL.out _).mono ?_;rintro e w4 ⟨rfl,gg⟩;go_wp2_with fail;refine⟨.inr (av gg),?_⟩
 repeat ((first|(refine ao rfl (fun K hK=>?_)) );go_simp;(first|(refine hK _ ?_) );clear hK K;(try go_bits))
 refine aB ?_;go_wp2_with fail;go_ret;have h3:=qI.out.drew.trans (b5.mono qI.out.drew.size);exact⟨(show Ending.returned (.bool (decide (x<ar)))=_ from by rw[adA (show x≠0 from xi),Bool.true_and]),h3.trans (gg.mono h3.size)⟩
theorem vm (A:Option Addr) (c:Nat) (b:List UInt8) (hl:b.length=32) (w:World) (hs:Sl w w.heap.size A (B8 b)):
 Calls Tryz.prog 43 #[.slice A 32 c] w fun e W'=>e=.returned (.agg (R8 (bB b)))∧Below w.heap.size w W':=by
 have bx:Tryz.prog.follows .mixedOrders=true:=by kernel_rfl
 obtain⟨b0,o0,rfl,de,aS⟩:=hs (by rw[B8_length,hl];omega);have Hl:=ab hl;have nB:=ab aS;clear hl aS hs;obtain⟨W0,bD⟩:∃W0,W0=(w.alloc (.cells (dB (dC b 0)).toArray 92)).alloc (.cells (dB (dC b 0)).toArray 92):=⟨_,rfl⟩;have h2:=jm w (.cells (dB (dC b 0)).toArray 92) (.cells (dB (dC b 0)).toArray 92);have qI:Hid (Below w.heap.size w W0):=ab (by rw[bD];exact((adl _ w).alloc (adi _) _).alloc (by simp) _);rw[←bD] at h2;obtain⟨gO,gX⟩:=h2;obtain⟨G,hG⟩:=ae w.heap.size;rw[←hG] at gX gO;have jh:W0.heap.size=G+2:=by rw[bD,hG];simp
 have hz:dC b 0=[0,0,0,0,0,0,0,0]:=by simp[dC,EU]
 rw[hz] at bD;have wC:=ab bD;have HG:=ab hG;have lM:=ab jh;have GO:=ab gO;have GX:=ab gX;clear bD hG jh hz gO gX;go_enter Tryz.func43,Tryz.ntmps43;go_wp2_with fail;refine(show W0=_ from wC.out)▸?_;rw[←HG.out];go_loopw [4] (fun i wr=>∃k:Nat,k≤32∧i=.int .i64 k∧wr.heap[G+1]?=some (.cells (dB (dC b k)).toArray 92 (0,0))∧W0.grownBy wr (some (G+1))) (fun i _=>32-(intOf i).toNat)
 case atStart=>exact⟨0,by omega,rfl,GX.out,dh _ _⟩
 case round=>
  obtain⟨k,hk,rfl,gX,hg⟩:=hrel;have Jm:Hid (Below w.heap.size w wr):=ab (qI.out.grown hg qI.out.size (fun _ h=>by cases h;rw[HG.out];omega));have gO:=(hg.block G (by rw[lM.out];omega) (by simp)).trans GO.out
  by_cases aV:k<32
  · have uw:k<b.length:=by rw[Hl.out];exact aV
    obtain⟨y,hy⟩:∃y,y=b[k]:=⟨_,rfl⟩;have cB:wr.cell? ⟨b0,o0+k,none⟩=some (.int .u8 (y.toNat:Int)):=by rw[Jm.out.cell (p:=⟨b0,o0+k,none⟩) de,nB.out k (by simpa using uw),hy];simp[B8]
    obtain⟨j,hj⟩:∃j,j=7-k/4:=⟨_,rfl⟩;have NT:j<8:=by omega
    have VI:(7:Int)-(k:Int)/4=(j:Int):=by omega
    have cX:=cf gX (k:=j) (by simp[dC];exact NT);rw[r7 b k j NT] at cX;obtain⟨v,hv⟩:=ae (eT b k j);rw[←hv] at cX;have ac5:v<16777216:=by rw[hv,hj];exact M2 b k aV uw
    have LI:eT b (k+1) j=v*256+y.toNat:=by rw[hv,hy,hj];exact Jo b k aV uw
    have dg:=EV b k aV uw;rw[←hj,LI] at dg;have zX:=dQ gX j;have hy8:=y.toNat_lt;have GX:=ab gX;have Hg:=ab hg;have rJ:=ab dg;clear gX gO dg LI hv hy hj hg;go_wp2_with fail;refine aE [(0,0),(1,0),(2,0),(3,0),(4,0),(5,0),(6,0),(7,1),(8,0),(9,0),(10,0),(11,0),(12,1),(13,0),(14,0),(15,0),(16,2)] 16 bx (by kernel_rfl) (by intro c a d v w h;cases d<;>exact h) ?_
    repeat ((first|(refine ao rfl (fun K hK=>?_))|(refine aD rfl (fun K hK=>?_)));go_simp;(first|(refine hK _ ?_)|(simp only[IntWalk.iteOmega];go_simp;refine hK _ ?_) );clear hK K;(try go_bits))
    refine ah rfl rfl (fun K hK=>?_);go_wp2_with fail;refine⟨.inl (by decide),?_⟩;refine aB ?_;go_wp2_with fail;refine⟨⟨k+1,by omega,by go_num,(by have e:(v:Int)*256+(y.toNat:Int)=((v*256+y.toNat:Nat):Int):=(by omega);rw[heap_drew,e,m7 GX.out,rJ.out]),eO (cC Hg.out _ _)⟩,by simp only[intOf];omega⟩
  obtain rfl:k=32:=by omega
  have hT:dC b 32=nu 8 (bB b):=EW b Hl.out;have nn:=ab (zl (T:=nu 8 (bB b)) (bg _ _));rw[hT] at gX;have M1:=ab gO;have Uz:=ab gX;have HZs:Hid ((dB (dC b 0)).toArray.size=(dB (nu 8 (bB b))).toArray.size):=ab (by simp[dB,dC,bg]);clear hT hg gX gO;go_wp2_with (first|(refine adw rfl 92 (.tmp 3) rfl (G+1) rfl 92 (dB (nu 8 (bB b))).toArray (0,0) _ Uz.out Tryz.underlying92 rfl nn.out ?_)|(refine ado rfl 92 (.tmp 2) (.tmp 25) rfl G (dB (nu 8 (bB b))).toArray rfl rfl 92 _ M1.out nn.out HZs.out (ec _) ?_));refine adm (v:=.agg (dB (nu 8 (bB b))).toArray) ?_ rfl ⟨rfl,au Jm.out (by rw[HG.out];omega) _⟩;exact adr rfl _ _ G 92 (dB (nu 8 (bB b))).toArray (0,0) _ rfl (adt _ _ _ _ _ _ M1.out) Tryz.underlying92 rfl nn.out
end Go.Proofs.YtnlkdheaohocnaaGreatDoor
namespace Go.Proofs.YtnlkdheaohocnaaGreatDoor
open Go
structure RM (mM dM:Nat):Prop where
 add:mM+dM=2^256
 hi:2^255<mM
 lo:dM<2^130
 pos:0<dM
theorem RM.lt {mM dM:Nat} (h:RM mM dM):mM<2^256:=by have:=h.add;have:=h.pos;omega
theorem RM.sub {mM dM:Nat} (h:RM mM dM):(0+2^256-mM)%2^256=dM:=by have:=h.add;have:=h.pos;have:=h.hi;omega
theorem RM.dlt {mM dM:Nat} (h:RM mM dM):dM<2^256:=by have:=h.add;have:=h.hi;omega
theorem RM.ne {mM dM:Nat} (h:RM mM dM):0<mM:=by have:=h.hi;omega
theorem rmP:RM ak 4294968273:=⟨by decide+kernel,by decide+kernel,by decide,by decide⟩
theorem V9:RM ar (2^256-ar):=⟨by decide+kernel,by decide+kernel,by decide+kernel,by decide+kernel⟩
def td (T:List Nat) (n i:Nat):List Nat:=T.take i++List.replicate (n-i) 0
theorem pE (T:List Nat) (n i:Nat) (h1:i≤n) (h2:i≤T.length):(td T n i).length=n:=by
 rw[td,adv,adq,List.length_replicate];omega
theorem Gk (T:List Nat) (n i:Nat) (h1:i<n) (h2:i<T.length):(td T n i).set i T[i]=td T n (i+1):=by
 have e:n-i=(n-(i+1))+1:=by omega
 rw[td,td,e,List.replicate_succ,adK h2,List.set_append_right _ _ (by rw[adq];omega),adq,show i-min i T.length=0 by omega,List.set_cons_zero];simp only[List.append_assoc,adK h2];rfl
theorem UA {T:List Nat} (h:∀t∈T,t<4294967296) (n i:Nat):∀t∈td T n i,t<4294967296:=by
 intro t ht;rcases List.mem_append.1 ht with ht|ht
 · exact h t (List.mem_of_mem_take ht)
 rw[(List.mem_replicate.1 ht).2];decide
theorem UB (T:List Nat) (n i:Nat):wu (td T n i)=wu (T.take i):=by
 rw[td,mh,vh,Nat.mul_zero,Nat.add_zero]
theorem Cy (T:List Nat) (n:Nat):td T n 0=List.replicate n 0:=by simp[td]
theorem M4 (i:Nat) (h:8≤i):2^256≤2^(32*i):=Nat.pow_le_pow_right (by decide) (by omega)
theorem Gl (T:List Nat) (i:Nat) (hi:8≤i) (h:i<T.length):(2^256≤wu (T.take (i+1)))↔(2^256≤wu (T.take i)∨T[i]≠0):=by
 rw[lv T i h];have hp:=M4 i hi;generalize 2^(32*i)=p at hp⊢;generalize wu (T.take i)=a;generalize T[i]=x;constructor
 · intro hh
   by_cases hx:x=0
   · left;rw[hx,Nat.zero_mul] at hh;omega
   right;exact hx
 rintro(hh|hh)
 · exact Nat.le_trans hh (Nat.le_add_right _ _)
 have:1*p≤x*p:=Nat.mul_le_mul_right p (by omega);omega
theorem vn {T:List Nat} (h:∀t∈T,t<4294967296):wu (T.take 8)<2^256:=by
 refine ads (xQ _ (fun t ht=>h t (List.mem_of_mem_take ht))) ?_;exact Nat.pow_le_pow_right (by decide) (by rw[adq];omega)
theorem qM (T:List Nat) (hl:T.length=17):wu T=wu (T.take 8)+2^256*wu (T.drop 8):=by
 have:=zk T 8;rwa [adq,show min 8 T.length=8 by omega] at this
theorem UC {T:List Nat} (hl:T.length=17) (h:wu T<2^256):wu (T.take 8)=wu T:=by
 have:=qM T hl;omega
theorem M5 {T:List Nat} (hl:T.length=17) (hb:∀t∈T,t<4294967296) (h:wu T<2^256):T.take 8=nu 8 (wu T):=by
 rw[←UC hl h];have:=Gi (T.take 8) (fun t ht=>hb t (List.mem_of_mem_take ht));rw[adq,show min 8 T.length=8 by omega] at this;exact this.symm
def na (T:List Nat) (i:Nat):Nat:=wu ((T.take i).drop 8)
theorem Z3 (T:List Nat):na T 8=0:=by
 rw[na,List.drop_of_length_le (by rw[adq];omega)];rfl
theorem M6 (T:List Nat) (hl:T.length=17):na T 17=wu (T.drop 8):=by rw[na,ady (by omega)]
theorem M7 (T:List Nat) (i:Nat) (hi:8≤i) (h:i<T.length):na T (i+1)=na T i+T[i]*2^(32*(i-8)):=by
 rw[na,na,adK h,List.drop_append_of_le_length (by rw[adq];omega),mh,adH,adq,show min i T.length-8=i-8 by omega];simp[wu,Nat.mul_comm]
set_option exponentiation.threshold 1000 in
theorem UD {T:List Nat} (h:∀t∈T,t<4294967296) (i:Nat) (hi:i≤17):na T i<2^288:=by
 refine ads (xQ _ (fun t ht=>h t (List.mem_of_mem_take (List.mem_of_mem_drop ht)))) ?_;exact Nat.pow_le_pow_right (by decide) (by rw[adH,adq];omega)
theorem Gm (N D:List Nat) (i j a c c' t' S:Nat) (hp:i+j<N.length) (hj:j<D.length) (he:t'+4294967296*c'=N[i+j]+a*D[j]+c)
 (h:wu N+c*2^(32*(i+j))=S+a*wu (D.take j)*2^(32*i)):wu (N.set (i+j) t')+c'*2^(32*(i+(j+1)))=S+a*wu (D.take (j+1))*2^(32*i):=by
 have h1:=r0 N (i+j) hp (a*D[j]) c c' t' he;rw[show i+(j+1)=i+j+1 by omega,h1,lv D j hj]
 have e:a*D[j]*2^(32*(i+j))=a*(D[j]*2^(32*j))*2^(32*i):=by
  rw[show 32*(i+j)=32*j+32*i by omega,Nat.pow_add];simp only[Nat.mul_assoc]
 rw[e,Nat.mul_add a,Nat.add_mul];omega
theorem Jr (N:List Nat) (j c c' t' S:Nat) (hj:j<N.length) (he:t'+4294967296*c'=N[j]+c) (h:wu N+c*2^(32*j)=S):wu (N.set j t')+c'*2^(32*(j+1))=S:=by
 have h1:=r0 N j hj 0 c c' t' (by omega);omega
theorem Rq (a b t c:Nat) (ha:a<4294967296) (hb:b<4294967296) (ht:t<4294967296) (hc:c<4294967296):a*b+t+c<18446744073709551616∧(a*b+t+c)%4294967296<4294967296∧(a*b+t+c)/4294967296<4294967296:=by
 have h:a*b≤4294967295*4294967295:=Nat.mul_le_mul (by omega) (by omega);generalize a*b=p at h⊢;refine⟨by omega,Nat.mod_lt _ (by decide),?_⟩;rw[Nat.div_lt_iff_lt_mul (by decide)];omega
def bdR:Nat→Nat
 |0=>2^512
 |1=>2^387
 |2=>2^262
 |3=>2^256+2^136
 |_=>2^256
set_option exponentiation.threshold 1000 in
theorem zo {L H a:Nat} (h:L+2^256*H<2^(256+a)):H<2^a:=by
 rcases Nat.lt_or_ge H (2^a) with hh|hh
 · exact hh
 have:=Nat.mul_le_mul_left (2^256) hh;rw[←Nat.pow_add] at this;exact absurd (Nat.lt_of_le_of_lt (Nat.le_trans this (Nat.le_add_left _ L)) h) (Nat.lt_irrefl _)
set_option exponentiation.threshold 1000 in
theorem tD {H d a:Nat} (h:H<2^a) (hd:d<2^130):H*d<2^(a+130):=by
 rw[Nat.pow_add];exact Nat.mul_lt_mul'' h hd
set_option exponentiation.threshold 1000 in
theorem M8 {dM:Nat} (hd:dM<2^130) (k L H:Nat) (hk:k≤4) (hL:L<2^256) (h:L+2^256*H<bdR k) (hh:2^256≤L+2^256*H):k+1≤4∧L+H*dM<bdR (k+1):=by
 rcases (show k=0∨k=1∨k=2∨k=3∨k=4 by omega) with rfl|rfl|rfl|rfl|rfl
 · have h1:=tD (zo (a:=256) h) hd
   refine⟨by omega,?_⟩;show L+H*dM<2^387;have e:(2:Nat)^(256+130)+2^256≤2^387:=by decide+kernel
   generalize (2:Nat)^387=p at*;generalize (2:Nat)^(256+130)=q at*;omega
 · have h1:=tD (zo (a:=131) h) hd
   refine⟨by omega,?_⟩;show L+H*dM<2^262;have e:(2:Nat)^(131+130)+2^256≤2^262:=by decide+kernel
   generalize (2:Nat)^262=p at*;generalize (2:Nat)^(131+130)=q at*;omega
 · have h1:=tD (zo (a:=6) h) hd
   refine⟨by omega,?_⟩;show L+H*dM<2^256+2^136;rw[show 6+130=136 from rfl] at h1;omega
 · have h':L+2^256*H<2^256+2^136:=h
   have h1:H=1:=by omega
   refine⟨by omega,?_⟩;show L+H*dM<2^256;subst h1;omega
 have h':L+2^256*H<2^256:=h;omega
set_option exponentiation.threshold 1000 in
theorem Js {dM:Nat} (hd:dM<2^130) {T:List Nat} (hb:∀t∈T,t<4294967296) (i:Nat) (hi:i≤17):wu (T.take 8)+na T i*dM<2^544:=by
 have h1:=vn hb;have h2:=tD (UD hb i hi) hd;have e:(2:Nat)^(288+130)+2^256≤2^544:=by decide+kernel
 generalize (2:Nat)^544=p at*;generalize (2:Nat)^(288+130)=q at*;omega
set_option exponentiation.threshold 1000 in
theorem zp {N:List Nat} {c S:Nat} (h:wu N+c*2^(32*17)=S) (hS:S<2^544):c=0:=by
 rcases Nat.eq_zero_or_pos c with h0|h0
 · exact h0
 exfalso;have h1:1*2^(32*17)≤c*2^(32*17):=Nat.mul_le_mul_right _ h0;rw[show 32*17=544 from rfl] at h h1;generalize (2:Nat)^544=p at*;omega
theorem M9 {mM dM:Nat} (hm:RM mM dM) {T:List Nat} (hl:T.length=17):(wu (T.take 8)+na T 17*dM)%mM=wu T%mM:=by
 rw[M6 T hl,Bh mM dM _ _ hm.add,←qM T hl]
end Go.Proofs.YtnlkdheaohocnaaGreatDoor
namespace Go.Proofs.YtnlkdheaohocnaaGreatDoor
open Go Go.RowKit Go.Shelf
theorem cR (n:Nat):(R8 n).all (·.oneCell')=true:=ec _
theorem aO (n:Nat):(Tryz.prog.info? 92).map (·.size)=some (R8 n).size:=zl (bg 8 n)
theorem Jt:(Tryz.prog.info? 143).map (·.size)=some 17:=by kernel_rfl
theorem EX {T:List Nat} (h:T.length=17):(Tryz.prog.info? 143).map (·.size)=some (dB T).toArray.size:=by
 have:(dB T).toArray.size=17:=by simp[dB,h]
 rw[this];exact Jt
theorem EY:ak<2^256:=by decide+kernel
theorem vo {mM dM:Nat} (hm:RM mM dM) {v:Nat} (h:v<2^256) (sH:¬v<mM):v-mM<2^256∧(v-mM)%mM=v%mM∧v-mM<mM:=by
 refine⟨by omega,(Nat.mod_eq_sub_mod (by omega)).symm,?_⟩;have h2:=hm.hi;omega
structure RedAt (mM dM:Nat) (w W:World) (G D:Nat) (T:List Nat):Prop where
 rt:W.heap[G]?=some (.cells (dB T).toArray 143 (0,0))
 rm:W.heap[G+1]?=some (.cells (R8 mM) 92 (0,0))
 ro:W.heap[G+1+1]?=some (.cells (R8 0) 92 (0,0))
 rd:W.heap[D]?=some (.cells (R8 dM) 92 (0,0))
 hG:w.heap.size=G
 hD:G+3≤D
 hb:Below w.heap.size w W
theorem RedAt.lt {mM dM:Nat} {w W:World} {G D:Nat} {T:List Nat} (h:RedAt mM dM w W G D T):D<W.heap.size:=cp h.rd
theorem RedAt.grown {mM dM:Nat} {w W W':World} {G D r:Nat} {T:List Nat} (h:RedAt mM dM w W G D T) (hg:W.grownBy W' (some r)) (hr:D<r):RedAt mM dM w W' G D T where
 rt:=(hg.block G (cp h.rt) (by have:=h.hD;intro e;cases e;omega)).trans h.rt
 rm:=(hg.block (G+1) (cp h.rm) (by have:=h.hD;intro e;cases e;omega)).trans h.rm
 ro:=(hg.block (G+1+1) (cp h.ro) (by have:=h.hD;intro e;cases e;omega)).trans h.ro
 rd:=(hg.block D (cp h.rd) (by intro e;cases e;omega)).trans h.rd
 hG:=h.hG
 hD:=h.hD
 hb:=h.hb.grown hg h.hb.size (fun _ e=>by cases e;have:=h.hG;have:=h.hD;omega)
theorem RedAt.below {mM dM:Nat} {w W W':World} {G D:Nat} {T:List Nat} (h:RedAt mM dM w W G D T) (hb:Below W.heap.size W W'):RedAt mM dM w W' G D T where
 rt:=(hb.block G (cp h.rt)).trans h.rt
 rm:=(hb.block (G+1) (cp h.rm)).trans h.rm
 ro:=(hb.block (G+1+1) (cp h.ro)).trans h.ro
 rd:=(hb.block D (cp h.rd)).trans h.rd
 hG:=h.hG
 hD:=h.hD
 hb:=h.hb.trans (hb.mono h.hb.size)
theorem vp {W0 W:World} {g:Nat} (h:W0.grownBy W (some g)) (cs:Array Value):W0.grownBy (W.setRow g cs) (some g) where
 os:=h.os
 tape:=h.tape
 output:=h.output
 size:=by have:=h.size;rw[Go.size_setRow];exact this
 block:=fun k hk bN=>(setRow_other W g k cs (fun e=>bN (by rw[e]))).trans (h.block k hk bN)
theorem RedAt.setT {mM dM:Nat} {w W:World} {G D:Nat} {T:List Nat} (h:RedAt mM dM w W G D T) (N:List Nat):RedAt mM dM w (W.setRow G (dB N).toArray) G D N where
 rt:=adt _ _ _ _ _ _ h.rt
 rm:=(setRow_other W G (G+1) _ (by omega)).trans h.rm
 ro:=(setRow_other W G (G+1+1) _ (by omega)).trans h.ro
 rd:=(setRow_other W G D _ (by have:=h.hD;omega)).trans h.rd
 hG:=h.hG
 hD:=h.hD
 hb:=au h.hb (by have:=h.hG;omega) _
set_option exponentiation.threshold 1000 in
theorem sD {mM dM:Nat} (hm:RM mM dM) (T0:List Nat) (hl:T0.length=17) (hb:∀t∈T0,t<4294967296) (hT:wu T0<2^512) (w:World):
 Calls Tryz.prog 95 #[.agg (dB T0).toArray,.agg (R8 mM)] w fun e W'=>e=.returned (.agg (R8 (wu T0%mM)))∧Below w.heap.size w W':=by
 have bx:Tryz.prog.follows .mixedOrders=true:=by kernel_rfl
 obtain⟨R,hR⟩:∃R,R=wu T0%mM:=⟨_,rfl⟩;rw[←hR];obtain⟨TA,hTA⟩:∃TA,TA=(dB T0).toArray:=⟨_,rfl⟩;rw[←hTA];have Dv:=fun W=>mi 0 mM (by decide) hm.lt W
 rw[hm.sub] at Dv;have hZ:R8 0=#[.int .u32 0,.int .u32 0,.int .u32 0,.int .u32 0,.int .u32 0,.int .u32 0,.int .u32 0,.int .u32 0]:=by kernel_rfl
 rw[hZ] at Dv;have MC:=ab Dv;obtain⟨W0,bD⟩:∃W0,W0=((w.alloc (.cells TA 143)).alloc (.cells (R8 mM) 92)).alloc (.cells (R8 0) 92):=⟨_,rfl⟩;have h3:=xv w (.cells TA 143) (.cells (R8 mM) 92) (.cells (R8 0) 92);have qI:Hid (Below w.heap.size w W0):=ab (by rw[bD];exact(((adl _ w).alloc (adi _) _).alloc (by simp) _).alloc (by simp;omega) _);rw[←bD] at h3;have jh:W0.heap.size=w.heap.size+3:=by rw[bD];simp
 rw[hZ] at bD;have H3:=ab h3;have HR:=ab hR;have HTA:=ab hTA;have lM:=ab jh;have wC:=ab bD;have HT0:Hid (T0.length=17∧(∀t∈T0,t<4294967296)∧wu T0<2^512):=ab ⟨hl,hb,hT⟩;clear hR hTA Dv hZ bD h3 jh hl hb hT;go_enter Tryz.func95,Tryz.ntmps95;go_wp2_with (first|(refine adw rfl 92 (.tmp 3) rfl (w.heap.size+1) rfl 92 (R8 mM) (0,0) _ (by rw[←wC.out];exact H3.out.2.1) Tryz.underlying92 rfl (aO _) ?_;refine(show W0=_ from wC.out)▸?_));refine(MC.out _).mono ?_;rintro e w1 ⟨rfl,bH⟩;have kV:W0.heap.size≤w1.heap.size:=bH.size;obtain⟨D,hD⟩:=ae w1.heap.size;obtain⟨G,hG⟩:=ae w.heap.size;obtain⟨w2,kT⟩:=ae (w1.alloc (.cells (R8 dM) 92))
 have hR0:RedAt mM dM w w2 G D T0:=by
  have k1:∀g o,W0.heap[g]?=some o→w2.heap[g]?=some o:=fun g o h=>by
   rw[kT];exact dU ((bH.block g (cp h)).trans h)
  obtain⟨r1,r2,r3⟩:=H3.out;rw[HTA.out] at r1;rw[←hG] at r1 r2 r3;exact⟨k1 _ _ r1,k1 _ _ r2,k1 _ _ r3,by rw[kT,hD];exact adk w1 _,hG.symm,by have:=lM.out;omega,by rw[kT];exact(qI.out.trans (bH.mono qI.out.size)).alloc (by have:=qI.out.size;omega) _⟩
 have HR0:=ab hR0;have HD:=ab hD;have Hw2:=ab kT;rw[←hG];clear hR0 hG hD kT bH kV MC H3 lM wC;go_wp2_with (first|(refine ado rfl 92 (.tmp 5) (.tmp 22) rfl w1.heap.size (R8 dM) rfl rfl 92 _ (adk w1 _) (aO _) rfl (cR _) ?_;rw[adJ];rw[←HD.out,←Hw2.out];clear HD Hw2));go_loopw [6] (fun kv wr=>∃(k:Nat) (T:List Nat),k≤4∧kv=.int .i64 k∧Hid (T.length=17∧(∀t∈T,t<4294967296)∧wu T<bdR k∧wu T%mM=R)∧RedAt mM dM w wr G D T) (fun kv _=>6-(intOf kv).toNat)
 case atStart=>exact⟨0,T0,by omega,rfl,ab ⟨HT0.out.1,HT0.out.2.1,HT0.out.2.2,HR.out.symm⟩,HR0.out⟩
 case round=>
  obtain⟨k,T,hk,rfl,HT,hA⟩:=hrel;have HA:=ab hA;clear HR0 hA;go_wp2_with fail;go_loopw [7,8] (fun hv iv wh=>wh=wr∧∃(i:Nat) (b:Bool),8≤i∧i≤17∧iv=.int .i64 i∧hv=.bool b∧Hid (b=decide (2^256≤wu (T.take i)))) (fun _ iv _=>17-(intOf iv).toNat)
  case atStart=>exact⟨rfl,8,false,by omega,by omega,rfl,rfl,ab (adI (by have:=vn HT.out.2.1;omega)).symm⟩
  case round=>
   obtain⟨rfl,i,b,hi8,abY,rfl,rfl,HB⟩:=hrel
   by_cases aV:i<17
   · have zq:i<T.length:=by rw[HT.out.1];exact aV
     obtain⟨x,hx⟩:∃x,x=T[i]:=⟨_,rfl⟩;have cT:=cf HA.out.rt zq;rw[←hx] at cT
     have HN:Hid (b=false→((x:Int)!=0)=decide (2^256≤wu (T.take (i+1)))):=ab (fun YL=>by
      have e:=HB.out;rw[YL] at e;have CU:¬2^256≤wu (T.take i):=by have:=e.symm;exact of_decide_eq_false this
      have hwh:=Gl T i hi8 zq;rw[←hx] at hwh;rw[decide_eq_decide.2 hwh]
      by_cases h0:x=0
      · rw[adI (by rintro(h|h);exact CU h;exact h h0),h0];rfl
      rw[adA (.inr h0)];exact bne_iff_ne.2 (by omega))
     have HY:Hid (b=true→true=decide (2^256≤wu (T.take (i+1)))):=ab (fun hbt=>by
      have e:=HB.out;rw[hbt] at e;rw[decide_eq_decide.2 (Gl T i hi8 zq)];exact(adA (.inl (of_decide_eq_true e.symm))).symm)
     clear hx zq
     cases b with
     |true=>
      go_wp2_with fail;exact⟨⟨trivial,i+1,true,by omega,by omega,by go_num,rfl,ab (HY.out rfl)⟩,by simp only[intOf];omega⟩
     |false=>
      go_wp2_with fail;exact⟨⟨trivial,i+1,_,by omega,by omega,by go_num,rfl,ab (HN.out rfl)⟩,by simp only[intOf];omega⟩
   obtain rfl:i=17:=by omega
   cases b with
   |true=>
    have wg:2^256≤wu T:=by
     have e:=HB.out;rw[ady (by rw[HT.out.1];omega)] at e;exact of_decide_eq_true e.symm
    have abZ:=ab wg;obtain⟨W3,qS⟩:∃W3,W3=wr.alloc (.cells (dB (List.replicate 17 0)).toArray 143):=⟨_,rfl⟩;obtain⟨gN,rl⟩:=ae wr.heap.size;have C1:RedAt mM dM w W3 G D T:=HA.out.below (by rw[qS];exact(adl _ _).alloc (adi _) _);have Z4:W3.heap[gN]?=some (.cells (dB (td T 17 0)).toArray 143 (0,0)):=by rw[qS,rl,Cy];exact adk wr _
    have Z5:D<gN:=by rw[rl];exact HA.out.lt
    have KO:=ab C1;have Z6:=ab Z4;have Rr:=ab qS;have Z7:=ab rl;have UE:=ab Z5;clear wg C1 Z4 qS rl Z5 HB;go_wp2_with fail;refine(show W3=_ from Rr.out)▸?_;rw[←Z7.out];clear Rr Z7 HA;go_loopw [10] (fun iv wc=>∃i:Nat,i≤8∧iv=.int .i64 i∧wc.heap[gN]?=some (.cells (dB (td T 17 i)).toArray 143 (0,0))∧W3.grownBy wc (some gN)) (fun iv _=>8-(intOf iv).toNat)
    case atStart=>exact⟨0,by omega,rfl,Z6.out,dh _ _⟩
    case round=>
     obtain⟨i,hi,rfl,gC,hg⟩:=hrel
     by_cases aV:i<8
     · have zq:i<T.length:=by rw[HT.out.1];omega
       have dg:=Gk T 17 i (by omega) zq;obtain⟨x,hx⟩:∃x,x=T[i]:=⟨_,rfl⟩;have cT:=cf (KO.out.grown hg UE.out).rt zq;have Z8:i<(td T 17 i).length:=by rw[pE T 17 i (by omega) (by omega)];omega
       have cN:=cf gC Z8;generalize (td T 17 i)[i]=y at cN;rw[←hx] at cT dg;have zN:=dQ gC i;have rJ:=ab dg;have GC:=ab gC;have Hg:=ab hg;clear dg hx zq Z8 gC hg;go_wp2_with fail;exact⟨⟨i+1,by omega,by go_num,by rw[m7 GC.out,rJ.out],cC Hg.out _ _⟩,by simp only[intOf];omega⟩
     obtain rfl:i=8:=by omega
     have HN8:Hid ((td T 17 8).length=17∧(∀t∈td T 17 8,t<4294967296)∧wu (td T 17 8)=wu (T.take 8)+na T 8*dM):=ab ⟨pE T 17 8 (by omega) (by rw[HT.out.1];omega),UA HT.out.2.1 17 8,by rw[UB,Z3,Nat.zero_mul,Nat.add_zero]⟩;have GC:=ab gC;have Hg:=ab hg;clear gC hg Z6;go_wp2_with fail;go_loopw [11] (fun iv wi=>∃(i:Nat) (N:List Nat),8≤i∧i≤17∧iv=.int .i64 i∧Hid (N.length=17∧(∀t∈N,t<4294967296)∧wu N=wu (T.take 8)+na T i*dM)∧wi.heap[gN]?=some (.cells (dB N).toArray 143 (0,0))∧W3.grownBy wi (some gN)) (fun iv _=>17-(intOf iv).toNat)
     case atStart=>exact⟨8,td T 17 8,by omega,by omega,rfl,HN8.out |> ab,GC.out,Hg.out⟩
     case round=>
      clear GC Hg HN8;obtain⟨i,N,hi8,abY,rfl,HN,gC,hg⟩:=hrel
      by_cases aV:i<17
      · have zq:i<T.length:=by rw[HT.out.1];exact aV
        obtain⟨a,ha⟩:∃a,a=T[i]:=⟨_,rfl⟩;have UF:a<4294967296:=by rw[ha];exact HT.out.2.1 _ (List.getElem_mem _)
        obtain⟨q,hq⟩:∃q,q=i-8:=⟨_,rfl⟩;obtain⟨UG,PU⟩:∃UG,UG=wu (T.take 8)+na T (i+1)*dM:=⟨_,rfl⟩
        have hS:wu N+a*dM*2^(32*q)=UG:=by
         rw[PU,M7 T i hi8 zq,HN.out.2.2,←ha,←hq,Nat.add_mul,Nat.mul_right_comm a];omega
        have hTB:UG<2^544:=by rw[PU];exact Js hm.lo HT.out.2.1 (i+1) (by omega)
        obtain⟨S,TG⟩:=ae (wu N);rw[←TG] at hS;have Ha:=ab ha;have Hq:=ab hq;have ab0:=ab PU;have HS:=ab hS;have HTB:=ab hTB;have S9:Hid (N.length=17∧(∀t∈N,t<4294967296)∧wu N+0*2^(32*(q+0))=S+a*wu ((nu 8 dM).take 0)*2^(32*q)):=ab ⟨HN.out.1,HN.out.2.1,by rw[TG];simp[wu]⟩;have GC:=ab gC;have Hg:=ab hg;clear ha hq PU hS hTB TG gC hg HN;go_wp2_with fail;go_loopw [12,13] (fun cv jv wj=>∃(j c:Nat) (U:List Nat),j≤8∧jv=.int .i64 j∧cv=.int .u64 c∧c<4294967296∧Hid (U.length=17∧(∀t∈U,t<4294967296)∧wu U+c*2^(32*(q+j))=S+a*wu ((nu 8 dM).take j)*2^(32*q))∧wj.heap[gN]?=some (.cells (dB U).toArray 143 (0,0))∧W3.grownBy wj (some gN)) (fun _ jv _=>8-(intOf jv).toNat)
        case atStart=>exact⟨0,0,N,by omega,rfl,rfl,by omega,ab S9.out,GC.out,Hg.out⟩
        case round=>
         clear GC Hg S9;obtain⟨j,c,U,NT,rfl,rfl,hc,HU,gC,hg⟩:=hrel;have N7:=KO.out.grown hg UE.out
         by_cases UH:j<8
         · obtain⟨p,hp⟩:∃p,p=q+j:=⟨_,rfl⟩
           have hq9:q+8=i:=by have:=Hq.out;omega
           have Ju:p<17:=by omega
           have hpI:(i:Int)-8+(j:Int)=(p:Int):=by omega
           have Z9:p<U.length:=by rw[HU.out.1];exact Ju
           have hjD:j<(nu 8 dM).length:=by rw[bg];exact UH
           obtain⟨t,ht⟩:∃t,t=U[p]:=⟨_,rfl⟩;obtain⟨d,hd⟩:∃d,d=(nu 8 dM)[j]:=⟨_,rfl⟩;have PV:t<4294967296:=by rw[ht];exact HU.out.2.1 _ (List.getElem_mem _)
           have ES:d<4294967296:=by rw[hd];exact nR 8 dM _ (List.getElem_mem _)
           have cT:=cf N7.rt (k:=i) (by rw[HT.out.1];exact aV);rw[←Ha.out] at cT;have cD:=cf (T:=nu 8 dM) N7.rd hjD;rw[←hd] at cD;have cN:=cf gC Z9;rw[←ht] at cN;have zN:=dQ gC p;obtain⟨m1,m2,m3⟩:=Rq a d t c UF ES PV hc;obtain⟨m,hm⟩:∃m,m=a*d:=⟨_,rfl⟩;have WM:(a:Int)*(d:Int)=(m:Int):=by rw[hm];push_cast;rfl
           rw[←hm] at m1 m2 m3
           have nd:=Gm U (nu 8 dM) q j a c ((m+t+c)/4294967296) ((m+t+c)%4294967296) S (by omega) hjD (by
            have e1:U[q+j]'(by omega)=t:=by rw[ht];congr 1;exact hp.symm
            rw[e1,←hd,←hm];omega) HU.out.2.2
           rw[←hp] at nd;obtain⟨s,hs⟩:∃s,s=m+t+c:=⟨_,rfl⟩;have hsI:(m:Int)+(t:Int)+(c:Int)=(s:Int):=by omega
           rw[←hs] at m1 m2 m3 nd;have Na:=ab nd;have HUs:=ab (nT HU.out.2.1 m2 p);have nn:Hid ((U.set p (s%4294967296)).length=17):=ab (by rw[List.length_set];exact HU.out.1);have GC:=ab gC;have Hg:=ab hg;have M3:=ab m3;clear hp ht hd hm hs nd gC hg Z9 hjD N7 m2 m3 hq9;have hjt:decide ((j:Int)<8)=true:=adA (by omega);have Di:decide ((p:Int)<17)=true:=adA (by omega);go_wp2_with fail;refine aE [(0,0),(1,0),(2,1),(3,0),(4,0),(5,0),(6,1),(7,0),(8,0),(9,0),(10,0),(11,0),(12,0),(13,0),(14,1),(15,0),(16,0),(17,0),(18,0),(19,0)] 20 bx (by kernel_rfl) (by intro c a d v w h;cases d<;>exact h) ?_
           repeat ((first|(refine ao rfl (fun K hK=>?_))|(refine aD rfl (fun K hK=>?_)));go_simp;(first|(refine hK _ ?_)|(simp only[IntWalk.iteOmega];go_simp;refine hK _ ?_) );clear hK K;(try go_bits))
           refine aB ?_;go_wp2_with fail;go_simp;have iH:(s:Int)%4294967296=((s%4294967296:Nat):Int):=by omega
           rw[iH];exact⟨⟨j+1,by omega,by omega,s/4294967296,by omega,M3.out,U.set p (s%4294967296),ab ⟨nn.out,HUs.out,Na.out⟩,by rw[heap_drew,m7 GC.out],eO (cC Hg.out _ _)⟩,by simp only[intOf];omega⟩
         obtain rfl:j=8:=by omega
         have hjf:decide (((8:Nat):Int)<8)=false:=by decide
         have HU8:Hid (U.length=17∧(∀t∈U,t<4294967296)∧wu U+c*2^(32*i)=UG):=ab ⟨HU.out.1,HU.out.2.1,by
          have e:=HU.out.2.2;rw[ady (by rw[bg];omega),lA 8 dM hm.dlt,HS.out,show q+8=i by have:=Hq.out;omega] at e;exact e⟩
         have GC:=ab gC;have Hg:=ab hg;clear gC hg N7;go_wp2_with fail;go_loopw [12,15] (fun cv jv wj=>∃(j c:Nat) (U:List Nat),i≤j∧j≤17∧jv=.int .i64 j∧cv=.int .u64 c∧c<4294967296∧Hid (U.length=17∧(∀t∈U,t<4294967296)∧wu U+c*2^(32*j)=UG)∧wj.heap[gN]?=some (.cells (dB U).toArray 143 (0,0))∧W3.grownBy wj (some gN)) (fun _ jv _=>17-(intOf jv).toNat)
         case atStart=>exact⟨i,c,U,by omega,by omega,rfl,rfl,hc,ab HU8.out,GC.out,Hg.out⟩
         case round=>
          clear GC Hg HU8 hjf HU;obtain⟨j,c,U,JQ,ac6,rfl,rfl,hc,HU,gC,hg⟩:=hrel
          have HSn:c=0→Hid (U.length=17∧(∀t∈U,t<4294967296)∧wu U=wu (T.take 8)+na T (i+1)*dM):=fun h0=>ab ⟨HU.out.1,HU.out.2.1,by
           have e:=HU.out.2.2;rw[h0,Nat.zero_mul,Nat.add_zero] at e;rw[e,ab0.out]⟩
          by_cases hlj:j<17
          · have hjt:decide ((j:Int)<17)=true:=adA (by omega)
            by_cases lP:c=0
            · have HF:=HSn lP
              subst lP;have GC:=ab gC;have Hg:=ab hg;clear gC hg HSn HU;go_wp2_with fail;exact⟨⟨i+1,U,by omega,by omega,by go_num,HF,GC.out,Hg.out⟩,by simp only[intOf];omega⟩
            have hcI:decide ((0:Int)<(c:Int))=true:=adA (by omega);have hcN:decide (0<c)=true:=adA (by omega);have LM:j<U.length:=by rw[HU.out.1];exact hlj
            obtain⟨t,ht⟩:∃t,t=U[j]:=⟨_,rfl⟩;have PV:t<4294967296:=by rw[ht];exact HU.out.2.1 _ (List.getElem_mem _)
            have cN:=cf gC LM;rw[←ht] at cN;have zN:=dQ gC j;obtain⟨s,hs⟩:∃s,s=t+c:=⟨_,rfl⟩;have nd:=Jr U j c (s/4294967296) (s%4294967296) UG LM (by rw[←ht,←hs];omega) HU.out.2.2;have HUs:=ab (nT HU.out.2.1 (show s%4294967296<4294967296 from Nat.mod_lt _ (by decide)) j);have nn:Hid ((U.set j (s%4294967296)).length=17):=ab (by rw[List.length_set];exact HU.out.1);have hsI:(t:Int)+(c:Int)=(s:Int):=by omega
            have hsB:s<8589934592:=by omega
            have Na:=ab nd;have GC:=ab gC;have Hg:=ab hg;clear gC hg HSn HU nd hs ht LM;go_wp2_with fail;have iH:(s:Int)%4294967296=((s%4294967296:Nat):Int):=by omega
            have jt:(s:Int)/4294967296=((s/4294967296:Nat):Int):=by omega
            rw[iH,jt];exact⟨⟨j+1,s/4294967296,U.set j (s%4294967296),by omega,by omega,by go_num,rfl,by omega,ab ⟨nn.out,HUs.out,Na.out⟩,m7 GC.out,cC Hg.out _ _⟩,by simp only[intOf];omega⟩
          obtain rfl:j=17:=by omega
          have lP:c=0:=zp HU.out.2.2 HTB.out;have HF:=HSn lP;subst lP;have GC:=ab gC;have Hg:=ab hg;clear gC hg HSn HU;go_wp2_with fail;exact⟨⟨i+1,U,by omega,by omega,by go_num,HF,GC.out,Hg.out⟩,by simp only[intOf];omega⟩
      obtain rfl:i=17:=by omega
      have N7:=KO.out.grown hg UE.out;obtain⟨ko,hbd⟩:=M8 hm.lo k (wu (T.take 8)) (wu (T.drop 8)) (by omega) (vn HT.out.2.1) (by rw[←qM T HT.out.1];exact HT.out.2.2.1) (by rw[←qM T HT.out.1];exact abZ.out);have HNk:Hid (N.length=17∧(∀t∈N,t<4294967296)∧wu N<bdR (k+1)∧wu N%mM=R):=ab ⟨HN.out.1,HN.out.2.1,by rw[HN.out.2.2,M6 T HT.out.1];exact hbd,by rw[HN.out.2.2,M9 hm HT.out.1];exact HT.out.2.2.2⟩;have aaa:=ab (EX HN.out.1);have ab1:Hid ((dB T).toArray.size=(dB N).toArray.size):=ab (by simp[dB,HT.out.1,HN.out.1]);have Wb:=ab N7;have GC:=ab gC;clear N7 gC hg hbd;go_wp2_with (first|(refine adw rfl 143 (.tmp 9) rfl gN rfl 143 (dB N).toArray (0,0) _ GC.out Tryz.underlying143 rfl aaa.out ?_)|(refine ado rfl 143 (.tmp 2) (.tmp 113) rfl G (dB N).toArray rfl rfl 143 _ Wb.out.rt aaa.out ab1.out (ec _) ?_));exact⟨⟨k+1,N,ko,by go_num,HNk,Wb.out.setT N⟩,by simp only[intOf];omega⟩
   |false=>
    have hsm:wu T<2^256:=by
     have e:=HB.out;rw[ady (by rw[HT.out.1];omega)] at e;have:=of_decide_eq_false e.symm;omega
    obtain⟨V,hV⟩:=ae (wu T);have hT8:T.take 8=nu 8 V:=by rw[hV];exact M5 HT.out.1 HT.out.2.1 hsm
    have HV:Hid (V<2^256∧V%mM=R):=ab ⟨by rw[hV];exact hsm,by rw[hV];exact HT.out.2.2.2⟩;have HT8:=ab hT8;obtain⟨W3,qS⟩:∃W3,W3=wr.alloc (.cells (dB (List.replicate 8 0)).toArray 92):=⟨_,rfl⟩;obtain⟨gN,rl⟩:=ae wr.heap.size;have C1:RedAt mM dM w W3 G D T:=HA.out.below (by rw[qS];exact(adl _ _).alloc (adi _) _);have Z4:W3.heap[gN]?=some (.cells (dB (td T 8 0)).toArray 92 (0,0)):=by rw[qS,rl,Cy];exact adk wr _
    have Z5:D<gN:=by rw[rl];exact HA.out.lt
    have KO:=ab C1;have Z6:=ab Z4;have Rr:=ab qS;have Z7:=ab rl;have UE:=ab Z5;clear hsm hV hT8 C1 Z4 qS rl Z5 HB;go_wp2_with fail;refine(show W3=_ from Rr.out)▸?_;rw[←Z7.out];clear Rr Z7 HA;go_loopw [18] (fun iv wc=>∃i:Nat,i≤8∧iv=.int .i64 i∧wc.heap[gN]?=some (.cells (dB (td T 8 i)).toArray 92 (0,0))∧W3.grownBy wc (some gN)) (fun iv _=>8-(intOf iv).toNat)
    case atStart=>exact⟨0,by omega,rfl,Z6.out,dh _ _⟩
    case round=>
     obtain⟨i,hi,rfl,gC,hg⟩:=hrel
     by_cases aV:i<8
     · have zq:i<T.length:=by rw[HT.out.1];omega
       have dg:=Gk T 8 i (by omega) zq;obtain⟨x,hx⟩:∃x,x=T[i]:=⟨_,rfl⟩;have cT:=cf (KO.out.grown hg UE.out).rt zq;have Z8:i<(td T 8 i).length:=by rw[pE T 8 i (by omega) (by omega)];omega
       have cN:=cf gC Z8;generalize (td T 8 i)[i]=y at cN;rw[←hx] at cT dg;have zN:=dQ gC i;have rJ:=ab dg;have GC:=ab gC;have Hg:=ab hg;clear dg hx zq Z8 gC hg;go_wp2_with fail;exact⟨⟨i+1,by omega,by go_num,by rw[m7 GC.out,rJ.out],cC Hg.out _ _⟩,by simp only[intOf];omega⟩
     obtain rfl:i=8:=by omega
     have gC':wr.heap[gN]?=some (.cells (R8 V) 92 (0,0)):=by
      have e:td T 8 8=nu 8 V:=by rw[td,HT8.out];simp
      rw[gC,e];rfl
     have HR1:=ab (KO.out.grown hg UE.out);have GC:=ab gC';clear gC gC' hg Z6 KO;go_wp2_with fail;go_loopw [19] (fun kv wc=>∃(k v:Nat),k≤1∧kv=.int .i64 k∧Hid (v<2^256∧v%mM=R∧(k=1→v<mM))∧wc.heap[gN]?=some (.cells (R8 v) 92 (0,0))∧RedAt mM dM w wc G D T) (fun kv _=>3-(intOf kv).toNat)
     case atStart=>exact⟨0,V,by omega,rfl,ab ⟨HV.out.1,HV.out.2,by omega⟩,GC.out,HR1.out⟩
     case round=>
      clear GC HR1;obtain⟨k,v,ko,rfl,Hv,gC,N7⟩:=hrel;have hkt:decide ((k:Int)<3)=true:=adA (by omega);have HL:=ab (nS v mM Hv.out.1 hm.lt);have GC:=ab gC;have Wb:=ab N7;clear gC N7;go_wp2_with (first|(refine bu (by rfl) 92 (.tmp 17) rfl gN rfl 92 (R8 v) (0,0) _ GC.out Tryz.underlying92 rfl (aO _) ?_)|(refine bu (by rfl) 92 (.tmp 3) rfl (G+1) rfl 92 (R8 mM) (0,0) _ Wb.out.rm Tryz.underlying92 rfl (aO _) ?_));refine(HL.out _).mono ?_;rintro e w3 ⟨rfl,b5⟩;have hR3:=Wb.out.below b5;have gC3:=(b5.block gN (cp GC.out)).trans GC.out;have UI:=ab hR3;have GC3:=ab gC3;clear hR3 gC3 b5 Wb GC HL
      by_cases PW:v<mM
      · have hvR:v=R:=by rw[←Hv.out.2.1,adu PW]
        rw[adA PW];have HvR:=ab hvR;clear hvR PW;go_wp2_with (first|(refine adw rfl 92 (.tmp 17) rfl gN rfl 92 (R8 v) (0,0) _ GC3.out Tryz.underlying92 rfl (aO _) ?_)|(refine ado rfl 92 (.tmp 4) (.tmp 136) rfl (G+1+1) (R8 v) rfl rfl 92 _ UI.out.ro (aO _) rfl (cR _) ?_));refine adm (v:=.agg (R8 v)) ?_ rfl ⟨by rw[HvR.out],au UI.out.hb (by have:=UI.out.hG;omega) _⟩;exact adr rfl _ _ (G+1+1) 92 (R8 v) (0,0) _ rfl (adt _ _ _ _ _ _ UI.out.ro) Tryz.underlying92 rfl (aO _)
      have iR:k=0:=by
       rcases (show k=0∨k=1 by omega) with h|h
       · exact h
       exact absurd (Hv.out.2.2 h) PW
      subst iR;rw[adI PW]
      have zJ:(v+2^256-mM)%2^256=v-mM:=by
       have h1:=Hv.out.1;have h2:=hm.lt;generalize (2:Nat)^256=p at*;rw[show v+p-mM=v-mM+p by omega,Nat.add_mod_right,adu (by omega)]
      have hM:=fun W=>mi v mM Hv.out.1 hm.lt W
      rw[zJ] at hM;have PX:Hid (v-mM<2^256∧(v-mM)%mM=R∧(1=1→v-mM<mM)):=ab ⟨(vo hm Hv.out.1 PW).1,(vo hm Hv.out.1 PW).2.1.trans Hv.out.2.1,fun _=>(vo hm Hv.out.1 PW).2.2⟩;have HM:=ab hM;clear hM zJ PW;go_wp2_with (first|(refine adw rfl 92 (.tmp 17) rfl gN rfl 92 (R8 v) (0,0) _ GC3.out Tryz.underlying92 rfl (aO _) ?_)|(refine adw rfl 92 (.tmp 3) rfl (G+1) rfl 92 (R8 mM) (0,0) _ UI.out.rm Tryz.underlying92 rfl (aO _) ?_));refine(HM.out _).mono ?_;rintro e w4 ⟨rfl,gg⟩;have HR4:=ab (UI.out.below gg);have GC4:=ab ((gg.block gN (cp GC3.out)).trans GC3.out);clear gg UI GC3 HM;obtain⟨v1,zJ⟩:∃v1,v1=v-mM:=⟨_,rfl⟩;rw[←zJ] at PX⊢;clear zJ;go_wp2_with (first|(refine ado rfl 92 (.tmp 17) (.tmp 135) rfl gN (R8 v1) rfl rfl 92 _ GC4.out (aO _) rfl (cR _) ?_));go_simp;exact⟨⟨1,by omega,rfl,v1,ab ⟨by have:=PX.out.1;omega,PX.out.2.1,fun _=>PX.out.2.2 (by trivial)⟩,adt _ _ _ _ _ _ GC4.out,HR4.out.grown (vp (dh _ _) _) UE.out⟩,by simp only[intOf];omega⟩
end Go.Proofs.YtnlkdheaohocnaaGreatDoor
