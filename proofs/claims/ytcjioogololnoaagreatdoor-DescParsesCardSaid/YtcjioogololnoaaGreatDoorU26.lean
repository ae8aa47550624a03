/- Of any text: the program's descriptors and the reference's are read and written alike (DescParses). No condition. -/
import Derived.Test.YtcjioogololnoaaGreatDoorU1
import Derived.Test.YtcjioogololnoaaGreatDoorU25
import Derived.Test.YtcjioogololnoaaGreatDoorU12
import Derived.Test.YtcjioogololnoaaGreatDoorU21
import Derived.Test.YtcjioogololnoaaGreatDoorU13
set_option maxRecDepth 1000000
set_option maxHeartbeats 16000000
set_option linter.unusedVariables false
set_option linter.unusedSimpArgs false
namespace Go.Proofs.YtcjioogololnoaaGreatDoor
open Go Go.RowKit Go.Shelf
theorem Gy (e i:Nat):e/2^(32*(i/32))%4294967296/2^(i%32)%2=e/2^i%2:=by
 have h1:e/2^i=e/2^(32*(i/32))/2^(i%32):=by
  rw[Nat.div_div_eq_div_mul,←Nat.pow_add,Nat.div_add_mod]
 rw[h1];generalize e/2^(32*(i/32))=x;have hr:i%32<32:=Nat.mod_lt _ (by decide);generalize i%32=r at hr⊢;have e1:(4294967296:Nat)=2^r*2^(32-r):=by rw[←Nat.pow_add,show r+(32-r)=32 by omega]
 rw[e1,Nat.mod_mul_right_div_self];have e2:(2:Nat)^(32-r)=2*2^(31-r):=by rw[show 32-r=(31-r)+1 by omega,Nat.pow_succ,Nat.mul_comm]
 rw[e2,Nat.mod_mul_right_mod]
theorem Jk:∀(k n j:Nat) (h:j<(nu k n).length),(nu k n)[j]=n/2^(32*j)%4294967296
 |0,n,j,h=>by simp[nu] at h
 |k+1,n,0,h=>by simp[nu]
 |k+1,n,j+1,h=>by
  have h':j<(nu k (n/4294967296)).length:=by rw[nu,agm] at h;omega
  show (nu k (n/4294967296))[j]=_;rw[Jk k _ j h',Wb,Nat.div_div_eq_div_mul]
def fA (b:List UInt8) (k j:Nat):Nat:=dY (((b.take k).drop (4*(7-j))).take 4)
def ev (b:List UInt8) (k:Nat):List Nat:=[fA b k 0,fA b k 1,fA b k 2,fA b k 3,fA b k 4,fA b k 5,fA b k 6,fA b k 7]
theorem Gz (b:List UInt8) (j:Nat):fA b 0 j=0:=by simp[fA,dY]
theorem Lu (b:List UInt8) (k:Nat) (hk:k<32) (hb:k<b.length):fA b (k+1) (7-k/4)=fA b k (7-k/4)*256+b[k].toNat:=by
 have e:4*(7-(7-k/4))=4*(k/4):=by omega
 have hd:((b.take k).drop (4*(k/4))).length=k-4*(k/4):=by rw[agD,agj];omega
 have h1:((b.take (k+1)).drop (4*(k/4))).take 4=(b.take k).drop (4*(k/4))++[b[k]]:=by
  rw[agh hb,List.drop_append_of_le_length (by rw[agj];omega)];exact af7 (by rw[agc,hd,agk];omega)
 have h2:((b.take k).drop (4*(k/4))).take 4=(b.take k).drop (4*(k/4)):=af7 (by rw[hd];omega);unfold fA;rw[e,h1,h2,vF]
theorem Lv (b:List UInt8) (k j:Nat) (hk:k<32) (hj:j<8) (hb:k<b.length) (dt:j≠7-k/4):fA b (k+1) j=fA b k j:=by
 unfold fA;congr 1;rw[agh hb];rcases (show 4*(7-j)+4≤k∨k+1≤4*(7-j) by omega) with h|h
 · rw[List.drop_append_of_le_length (by rw[agj];omega),List.take_append_of_le_length (by rw[agD,agj];omega)]
 rw[List.drop_of_length_le (by rw[agc,agj];simp;omega),List.drop_of_length_le (by rw[agj];omega)]
theorem P6 (b:List UInt8) (k:Nat) (hk:k<32) (hb:k<b.length):fA b k (7-k/4)<16777216:=by
 unfold fA;refine agq (lE _) ?_;rw[show (16777216:Nat)=256^3 by decide];exact Nat.pow_le_pow_right (by decide) (by rw[agj,agD,agj];omega)
theorem Lw (b:List UInt8) (k j:Nat):fA b k j<4294967296:=by
 unfold fA;refine agq (lE _) ?_;rw[show (4294967296:Nat)=256^4 by decide];exact Nat.pow_le_pow_right (by decide) (by rw[agj];omega)
theorem tz (b:List UInt8) (k j:Nat) (hj:j<8) (h:j<(ev b k).length):(ev b k)[j]=fA b k j:=by
 rcases (show j=0∨j=1∨j=2∨j=3∨j=4∨j=5∨j=6∨j=7 by omega) with rfl|rfl|rfl|rfl|rfl|rfl|rfl|rfl<;>rfl
theorem GA (b:List UInt8) (k:Nat) (hk:k<32) (hb:k<b.length):(ev b k).set (7-k/4) (fA b (k+1) (7-k/4))=ev b (k+1):=by
 apply List.ext_getElem (by simp[ev]);intro j h1 h2;have hj:j<8:=by simpa [ev] using h2
 rw[List.getElem_set,tz b (k+1) j hj];split
 · next h=>rw[h]
 next h=>rw[tz b k j hj,Lv b k j hk hj hb (fun e=>h e.symm)]
def xH:Nat→List UInt8→List Nat
 |0,_=>[]
 |m+1,l=>xH m (l.drop 4)++[dY (l.take 4)]
theorem sd:∀m l,(xH m l).length=m
 |0,_=>rfl
 |m+1,l=>by rw[xH,agc,sd];rfl
theorem D5:∀(m:Nat) (l:List UInt8),l.length=4*m→wu (xH m l)=dY l
 |0,l,h=>by
  obtain rfl:l=[]:=by simpa using h
  rfl
 |m+1,l,h=>by
  conv=>rhs;rw[←agH 4 l]
  rw[km,xH,my,sd,D5 m _ (by rw[agD];omega),agD]
  have e:(256:Nat)^(l.length-4)=2^(32*m):=by
   rw[show l.length-4=4*m by omega,show (256:Nat)=2^8 by decide,←Nat.pow_mul];congr 1;omega
  rw[e];simp only[wu];rw[Nat.mul_zero,Nat.add_zero,Nat.mul_comm,Nat.add_comm]
theorem GB (b:List UInt8) (hl:b.length=32):ev b 32=nu 8 (dY b):=by
 have ht:b.take 32=b:=af7 (by omega)
 have hw:ev b 32=xH 8 b:=by
  simp only[ev,fA,ht,xH,List.drop_drop,agJ,agw];have h0:b.take 4=(b.drop 0).take 4:=rfl;rw[h0]
 have hv:wu (ev b 32)=dY b:=by rw[hw];exact D5 8 b (by omega)
 rw[←hv];refine(Jj (ev b 32) ?_).symm;simp only[ev,List.mem_cons,List.not_mem_nil,or_false];rintro x (rfl|rfl|rfl|rfl|rfl|rfl|rfl|rfl)<;>exact Lw _ _ _
theorem GD (w:World):Calls Tryz.prog 118 #[] w fun e W'=>e=.returned (.agg (R8 al))∧Below w.heap.size w W':=by
 have hR:R8 al=#[.int .u32 4294966319,.int .u32 4294967294,.int .u32 4294967295,.int .u32 4294967295,.int .u32 4294967295,.int .u32 4294967295,.int .u32 4294967295,.int .u32 4294967295]:=by kernel_rfl
 go_enter Tryz.func118,Tryz.ntmps118;go_wp2_with fail;refine agf (v:=.agg (R8 al)) ?_ rfl ⟨rfl,(af5 _ w).alloc (af2 _) _⟩;rw[hR];exact ags rfl _ _ w.heap.size 121 _ (0,0) _ rfl (af4 w _) Tryz.underlying121 rfl oL
theorem P7 (x i:Nat) (hx:x<2^256) (hi:i<256) (w:World):Calls Tryz.prog 186 #[.agg (R8 x),.int .i64 i] w fun e W'=>e=.returned (.bool (decide (x/2^i%2=1)))∧Below w.heap.size w W':=by
 obtain⟨X,hX⟩:=ab (nu 8 x);have BP:Hid (X.length=8):=aa (by rw[hX,aS]);have hq:i/32<X.length:=by rw[BP.out];omega
 obtain⟨v,hv⟩:∃v,v=X[i/32]:=⟨_,rfl⟩
 have hb:v/2^(i%32)%2=x/2^i%2:=by
  rw[←Gy x i,hv];subst hX;rw[Jk]
 rw[R8,←hX];obtain⟨A,hA⟩:∃A,A=(cL X).toArray:=⟨_,rfl⟩;rw[←hA];have gX:=af4 w (.cells A 121);rw[hA] at gX;have cX:=cO gX hq;rw[←hv,←hA] at cX;have dh:Hid (Below w.heap.size w (w.alloc (.cells A 121))):=aa ((af5 _ w).alloc (af2 _) _)
 have hbI:(((v:Int)/2^(i%32)).tmod 2==1)=decide (x/2^i%2=1):=by
  rw[←hb];have e:((v:Int)/2^(i%32))=((v/2^(i%32):Nat):Int):=by push_cast;rfl
  rw[e,Int.tmod_eq_emod_of_nonneg (Int.natCast_nonneg _)]
  by_cases h:v/2^(i%32)%2=1
  · rw[af9 h]
    exact beq_iff_eq.2 (by omega)
  rw[af8 h];exact beq_eq_false_iff_ne.2 (by omega)
 have HbI:=aa hbI;clear hA gX hX hv hb hbI;go_enter Tryz.func186,Tryz.ntmps186;go_wp2_with fail;go_ret;exact⟨by rw[←HbI.out];rfl,dh.out⟩
theorem Zp (w:World):Calls Tryz.prog 188 #[] w fun e W'=>e=.returned (.agg (R8 fE))∧Below w.heap.size w W':=by
 have hR:R8 fE=#[.int .u32 3493216577,.int .u32 3218235020,.int .u32 2940772411,.int .u32 3132021990,.int .u32 4294967294,.int .u32 4294967295,.int .u32 4294967295,.int .u32 4294967295]:=by kernel_rfl
 go_enter Tryz.func188,Tryz.ntmps188;go_wp2_with fail;refine agf (v:=.agg (R8 fE)) ?_ rfl ⟨rfl,(af5 _ w).alloc (af2 _) _⟩;rw[hR];exact ags rfl _ _ w.heap.size 121 _ (0,0) _ rfl (af4 w _) Tryz.underlying121 rfl oL
theorem P8 (x:Nat) (hx:x<2^256) (w:World):Calls Tryz.prog 160 #[.agg (R8 x)] w fun e W'=>e=.returned (.bool (decide (x≠0)&&decide (x<fE)))∧Below w.heap.size w W':=by
 have bW:Tryz.prog.follows .mixedOrders=true:=by kernel_rfl
 obtain⟨X,hX⟩:=ab (nu 8 x);have BP:Hid (X.length=8):=aa (by rw[hX,aS])
 have h0:(!decide (X.map (fun n:Nat=>(n:Int))=(nu 8 0).map (fun n:Nat=>(n:Int))))=decide (x≠0):=by
  rw[hX]
  have:((nu 8 x).map (fun n:Nat=>(n:Int))=(nu 8 0).map (fun n:Nat=>(n:Int)))↔x=0:=by
   constructor
   · intro h
     have h2:=(List.map_inj_right (fun a b wI=>by exact Int.ofNat.inj wI)).1 h;have:=congrArg wu h2;rwa [lk 8 x hx,lk 8 0 (by decide)] at this
   rintro rfl;rfl
  by_cases tJ:x=0
  · rw[af9 (this.2 tJ),af8 (by simpa using tJ)];rfl
  rw[af8 (fun h=>tJ (this.1 h)),af9 tJ];rfl
 have Vo:∀T:List Nat,(cL T).toArray=((T.map (fun n:Nat=>(n:Int))).map (Value.int .u32)).toArray:=fun T=>by rw[cL,List.map_map];rfl
 have hL:=sa x fE hx (by decide+kernel);rw[R8,←hX] at hL⊢;obtain⟨A,hA⟩:∃A,A=(cL X).toArray:=⟨_,rfl⟩;rw[←hA] at hL⊢;have HA:=aa hA;have HL:=aa hL;have H0:=aa h0;have HA2:=aa Vo;have ra:Hid ((Tryz.prog.info? 121).map (·.size)=some A.size):=aa (by rw[hA];exact BA BP.out);obtain⟨W0,aM⟩:=ab (w.alloc (.cells A 121));have dh:Hid (Below w.heap.size w W0):=aa (by rw[aM];exact(af5 _ w).alloc (af2 _) _);have G0:Hid (W0.heap[w.heap.size]?=some (.cells A 121 (0,0))):=aa (by rw[aM];exact af4 w _);have gJ:=aa aM;clear aM hA hX h0 hL Vo;go_enter Tryz.func160,Tryz.ntmps160;go_wp2_with fail;refine(show W0=_ from gJ.out)▸?_;refine an [(0,1),(1,2),(2,0),(3,0),(4,1),(5,2),(6,2),(7,0),(8,0)] 9 bW (by kernel_rfl) (by intro c a d v w h;cases d<;>exact h) ?_;refine aX rfl rfl 121 (.tmp 1) rfl w.heap.size rfl 121 A (0,0) _ G0.out Tryz.underlying121 rfl ra.out ?_;refine ae rfl rfl (fun K hK=>?_);go_wp2_with fail;refine⟨.inr (Ext.refl _),?_⟩;refine xG .neq (.tmp 3) (.tmp 4) 121 _ _ .u32 8 (X.map (fun n:Nat=>(n:Int))) ((nu 8 0).map (fun n:Nat=>(n:Int))) (decide (x≠0)) rfl rfl rfl (by rw[←HA2.out X];exact congrArg Value.agg HA.out) rfl Tryz.underlying121 Tryz.underlying55 (by kernel_rfl) (by kernel_rfl) (by kernel_rfl) (by rw[List.length_map,BP.out]) (by kernel_rfl) (.inr ⟨rfl,H0.out⟩) ?_
 by_cases tJ:x=0
 · rw[af8 (show¬(x≠0) from fun h=>h tJ)]
   repeat ((first|refine ag rfl fun K hK=>?_|refine af rfl fun K hK=>?_);go_simp;(first|refine hK _ ?_|(simp only[IntWalk.iteOmega];go_simp;refine hK _ ?_)|(go_bits;go_simp;refine hK _ ?_));clear hK K;try go_bits)
   refine n8 rfl (by rfl) ?_;refine n8 rfl (by rfl) ?_
   repeat ((first|refine ag rfl fun K hK=>?_|refine af rfl fun K hK=>?_);go_simp;(first|refine hK _ ?_|(simp only[IntWalk.iteOmega];go_simp;refine hK _ ?_)|(go_bits;go_simp;refine hK _ ?_));clear hK K;try go_bits)
   refine ak ?_;go_wp2_with fail;go_ret;exact⟨(show Ending.returned (.bool false)=_ from by rw[af8 (show¬(x≠0) from fun h=>h tJ),Bool.false_and]),dh.out.drew⟩
 rw[af9 (show x≠0 from tJ)]
 repeat ((first|refine ag rfl fun K hK=>?_|refine af rfl fun K hK=>?_);go_simp;(first|refine hK _ ?_|(simp only[IntWalk.iteOmega];go_simp;refine hK _ ?_)|(go_bits;go_simp;refine hK _ ?_));clear hK K;try go_bits)
 refine jx rfl (by rfl) 121 (.tmp 1) rfl w.heap.size rfl 121 A (0,0) _ G0.out Tryz.underlying121 rfl ra.out ?_;refine eW rfl (by rfl) (fun K hK=>?_);go_wp2_with fail;refine(Zp _).mono ?_;rintro e w3 ⟨rfl,bd⟩;go_wp2_with fail;refine⟨.inr (aj bd),?_⟩;refine eW rfl (by rfl) (fun K hK=>?_);go_wp2_with fail;refine(HL.out _).mono ?_;rintro e w4 ⟨rfl,dn⟩;go_wp2_with fail;refine⟨.inr (aj dn),?_⟩
 repeat ((first|refine ag rfl fun K hK=>?_|refine af rfl fun K hK=>?_);go_simp;(first|refine hK _ ?_|(simp only[IntWalk.iteOmega];go_simp;refine hK _ ?_)|(go_bits;go_simp;refine hK _ ?_));clear hK K;try go_bits)
 refine ak ?_;go_wp2_with fail;go_ret;have h3:=dh.out.drew.trans (bd.mono dh.out.drew.size);exact⟨(show Ending.returned (.bool (decide (x<fE)))=_ from by rw[af9 (show x≠0 from tJ),Bool.true_and]),h3.trans (dn.mono h3.size)⟩
theorem P9 (A:Option Addr) (c:Nat) (b:List UInt8) (hl:b.length=32) (w:World) (hs:Sl w w.heap.size A (B8 b)):
 Calls Tryz.prog 117 #[.slice A 32 c] w fun e W'=>e=.returned (.agg (R8 (dY b)))∧Below w.heap.size w W':=by
 have bW:Tryz.prog.follows .mixedOrders=true:=by kernel_rfl
 obtain⟨b0,o0,rfl,bL,aD⟩:=hs (by rw[B8_length,hl];omega);have Hl:=aa hl;have jk:=aa aD;clear hl aD hs;obtain⟨W0,aM⟩:∃W0,W0=(w.alloc (.cells (cL (ev b 0)).toArray 121)).alloc (.cells (cL (ev b 0)).toArray 121):=⟨_,rfl⟩;have h2:=iV w (.cells (cL (ev b 0)).toArray 121) (.cells (cL (ev b 0)).toArray 121);have dh:Hid (Below w.heap.size w W0):=aa (by rw[aM];exact((af5 _ w).alloc (af2 _) _).alloc (by simp) _);rw[←aM] at h2;obtain⟨gO,gX⟩:=h2;obtain⟨G,hG⟩:=ab w.heap.size;rw[←hG] at gX gO;have iC:W0.heap.size=G+2:=by rw[aM,hG];simp
 have hz:ev b 0=[0,0,0,0,0,0,0,0]:=by simp[ev,Gz]
 rw[hz] at aM;have gJ:=aa aM;have HG:=aa hG;have kM:=aa iC;have GO:=aa gO;have GX:=aa gX;clear aM hG iC hz gO gX;go_enter Tryz.func117,Tryz.ntmps117;go_wp2_with fail;refine(show W0=_ from gJ.out)▸?_;rw[←HG.out];go_loopw [4] (fun i wr=>∃k:Nat,k≤32∧i=.int .i64 k∧wr.heap[G+1]?=some (.cells (cL (ev b k)).toArray 121 (0,0))∧W0.grownBy wr (some (G+1))) (fun i _=>32-(intOf i).toNat)
 case atStart=>exact⟨0,by omega,rfl,GX.out,cV _ _⟩
 case round=>
  obtain⟨k,hk,rfl,gX,hg⟩:=hrel;have jN:Hid (Below w.heap.size w wr):=aa (dh.out.grown hg dh.out.size (fun _ h=>by cases h;rw[HG.out];omega));have gO:=(hg.block G (by rw[kM.out];omega) (by simp)).trans GO.out
  by_cases aL:k<32
  · have JG:k<b.length:=by rw[Hl.out];exact aL
    obtain⟨y,hy⟩:∃y,y=b[k]:=⟨_,rfl⟩;have cB:wr.cell? ⟨b0,o0+k,none⟩=some (.int .u8 (y.toNat:Int)):=by rw[jN.out.cell (p:=⟨b0,o0+k,none⟩) bL,jk.out k (by simpa using JG),hy];simp[B8]
    obtain⟨j,hj⟩:∃j,j=7-k/4:=⟨_,rfl⟩;have Rn:j<8:=by omega
    have hjI:(7:Int)-(k:Int)/4=(j:Int):=by omega
    have cX:=cO gX (k:=j) (by simp[ev];exact Rn);rw[tz b k j Rn] at cX;obtain⟨v,hv⟩:=ab (fA b k j);rw[←hv] at cX;have afz:v<16777216:=by rw[hv,hj];exact P6 b k aL JG
    have jg:fA b (k+1) j=v*256+y.toNat:=by rw[hv,hy,hj];exact Lu b k aL JG
    have kn:=GA b k aL JG;rw[←hj,jg] at kn;have zX:=bV gX j;have CW:=y.toNat_lt;have GX:=aa gX;have Hg:=aa hg;have vL:=aa kn;clear gX gO kn jg hv hy hj hg;go_wp2_with fail;refine an [(0,0),(1,0),(2,0),(3,0),(4,0),(5,0),(6,0),(7,1),(8,0),(9,0),(10,0),(11,0),(12,1),(13,0),(14,0),(15,0),(16,2)] 16 bW (by kernel_rfl) (by intro c a d v w h;cases d<;>exact h) ?_
    repeat ((first|refine ag rfl fun K hK=>?_|refine af rfl fun K hK=>?_);go_simp;(first|refine hK _ ?_|(simp only[IntWalk.iteOmega];go_simp;refine hK _ ?_)|(go_bits;go_simp;refine hK _ ?_));clear hK K;try go_bits)
    refine ae rfl rfl (fun K hK=>?_);go_wp2_with fail;refine⟨.inl (by decide),?_⟩;refine ak ?_;go_wp2_with fail;refine⟨⟨k+1,by omega,by go_num,(by have e:(v:Int)*256+(y.toNat:Int)=((v*256+y.toNat:Nat):Int):=(by omega);rw[heap_drew,e,kF GX.out,vL.out]),eQ (be Hg.out _ _)⟩,by simp only[intOf];omega⟩
  obtain rfl:k=32:=by omega
  have hT:ev b 32=nu 8 (dY b):=GB b Hl.out;have ra:=aa (BA (T:=nu 8 (dY b)) (aS _ _));rw[hT] at gX;have P5:=aa gO;have Zo:=aa gX;have HZs:Hid ((cL (ev b 0)).toArray.size=(cL (nu 8 (dY b))).toArray.size):=aa (by simp[cL,ev,aS]);clear hT hg gX gO;go_wp2_with (first|(refine aga rfl 121 (.tmp 3) rfl (G+1) rfl 121 (cL (nu 8 (dY b))).toArray (0,0) _ Zo.out Tryz.underlying121 rfl ra.out ?_)|(refine af6 rfl 121 (.tmp 2) (.tmp 25) rfl G (cL (nu 8 (dY b))).toArray rfl rfl 121 _ P5.out ra.out HZs.out (ve _) ?_));refine agf (v:=.agg (cL (nu 8 (dY b))).toArray) ?_ rfl ⟨rfl,ah jN.out (by rw[HG.out];omega) _⟩;exact ags rfl _ _ G 121 (cL (nu 8 (dY b))).toArray (0,0) _ rfl (agd _ _ _ _ _ _ P5.out) Tryz.underlying121 rfl ra.out
end Go.Proofs.YtcjioogololnoaaGreatDoor
namespace Go.Proofs.YtcjioogololnoaaGreatDoor
open Go
def dF:Nat:=4294968273
theorem abS:(0+2^256-al)%2^256=dF:=by decide+kernel
theorem Qa:al+dF=2^256:=by decide+kernel
def uL (T:List Nat) (n i:Nat):List Nat:=T.take i++List.replicate (n-i) 0
theorem qM (T:List Nat) (n i:Nat) (h1:i≤n) (h2:i≤T.length):(uL T n i).length=n:=by
 rw[uL,agc,agj,List.length_replicate];omega
theorem Jl (T:List Nat) (n i:Nat) (h1:i<n) (h2:i<T.length):(uL T n i).set i T[i]=uL T n (i+1):=by
 have e:n-i=(n-(i+1))+1:=by omega
 rw[uL,uL,e,List.replicate_succ,agh h2,List.set_append_right _ _ (by rw[agj];omega),agj,show i-min i T.length=0 by omega,List.set_cons_zero];simp only[agL,agh h2];rfl
theorem Zq {T:List Nat} (h:∀t∈T,t<4294967296) (n i:Nat):∀t∈uL T n i,t<4294967296:=by
 intro t ht;rcases List.mem_append.1 ht with ht|ht
 · exact h t (List.mem_of_mem_take ht)
 rw[(List.mem_replicate.1 ht).2];decide
theorem Zr (T:List Nat) (n i:Nat):wu (uL T n i)=wu (T.take i):=by
 rw[uL,my,xE,Nat.mul_zero,Nat.add_zero]
theorem D6 (T:List Nat) (n:Nat):uL T n 0=List.replicate n 0:=by simp[uL]
theorem Qb (i:Nat) (h:8≤i):2^256≤2^(32*i):=Nat.pow_le_pow_right (by decide) (by omega)
theorem Jm (T:List Nat) (i:Nat) (hi:8≤i) (h:i<T.length):(2^256≤wu (T.take (i+1)))↔(2^256≤wu (T.take i)∨T[i]≠0):=by
 rw[lj T i h];have hp:=Qb i hi;generalize 2^(32*i)=p at hp⊢;generalize wu (T.take i)=a;generalize T[i]=x;constructor
 · intro hh
   by_cases hx:x=0
   · left;rw[hx,Nat.zero_mul] at hh;omega
   right;exact hx
 rintro(hh|hh)
 · exact agx hh (Nat.le_add_right _ _)
 have:1*p≤x*p:=Nat.mul_le_mul_right p (by omega);omega
theorem xI {T:List Nat} (h:∀t∈T,t<4294967296):wu (T.take 8)<2^256:=by
 refine agq (zA _ (fun t ht=>h t (List.mem_of_mem_take ht))) ?_;exact Nat.pow_le_pow_right (by decide) (by rw[agj];omega)
theorem se (T:List Nat) (hl:T.length=17):wu T=wu (T.take 8)+2^256*wu (T.drop 8):=by
 have:=Bz T 8;rwa [agj,show min 8 T.length=8 by omega] at this
theorem Zs {T:List Nat} (hl:T.length=17) (h:wu T<2^256):wu (T.take 8)=wu T:=by
 have:=se T hl;omega
theorem Qc {T:List Nat} (hl:T.length=17) (hb:∀t∈T,t<4294967296) (h:wu T<2^256):T.take 8=nu 8 (wu T):=by
 rw[←Zs hl h];have:=Jj (T.take 8) (fun t ht=>hb t (List.mem_of_mem_take ht));rw[agj,show min 8 T.length=8 by omega] at this;exact this.symm
def lP (T:List Nat) (i:Nat):Nat:=wu ((T.take i).drop 8)
theorem abT (T:List Nat):lP T 8=0:=by
 rw[lP,List.drop_of_length_le (by rw[agj];omega)];rfl
theorem Qd (T:List Nat) (hl:T.length=17):lP T 17=wu (T.drop 8):=by rw[lP,af7 (by omega)]
theorem Qe (T:List Nat) (i:Nat) (hi:8≤i) (h:i<T.length):lP T (i+1)=lP T i+T[i]*2^(32*(i-8)):=by
 rw[lP,lP,agh h,List.drop_append_of_le_length (by rw[agj];omega),my,agD,agj,show min i T.length-8=i-8 by omega];simp[wu,Nat.mul_comm]
set_option exponentiation.threshold 1000 in
theorem Zt {T:List Nat} (h:∀t∈T,t<4294967296) (i:Nat) (hi:i≤17):lP T i<2^288:=by
 refine agq (zA _ (fun t ht=>h t (List.mem_of_mem_take (List.mem_of_mem_drop ht)))) ?_;exact Nat.pow_le_pow_right (by decide) (by rw[agD,agj];omega)
theorem Jn (N D:List Nat) (i j a c c' t' S:Nat) (hp:i+j<N.length) (hj:j<D.length) (he:t'+4294967296*c'=N[i+j]+a*D[j]+c)
 (h:wu N+c*2^(32*(i+j))=S+a*wu (D.take j)*2^(32*i)):wu (N.set (i+j) t')+c'*2^(32*(i+(j+1)))=S+a*wu (D.take (j+1))*2^(32*i):=by
 have h1:=tx N (i+j) hp (a*D[j]) c c' t' he;rw[show i+(j+1)=i+j+1 by omega,h1,lj D j hj]
 have e:a*D[j]*2^(32*(i+j))=a*(D[j]*2^(32*j))*2^(32*i):=by
  rw[show 32*(i+j)=32*j+32*i by omega,Nat.pow_add];simp only[Nat.mul_assoc]
 rw[e,Nat.mul_add a,Nat.add_mul];omega
theorem Lx (N:List Nat) (j c c' t' S:Nat) (hj:j<N.length) (he:t'+4294967296*c'=N[j]+c) (h:wu N+c*2^(32*j)=S):wu (N.set j t')+c'*2^(32*(j+1))=S:=by
 have h1:=tx N j hj 0 c c' t' (by omega);omega
theorem Wg (a b t c:Nat) (ha:a<4294967296) (hb:b<4294967296) (ht:t<4294967296) (hc:c<4294967296):a*b+t+c<18446744073709551616∧(a*b+t+c)%4294967296<4294967296∧(a*b+t+c)/4294967296<4294967296:=by
 have h:a*b≤4294967295*4294967295:=Nat.mul_le_mul (by omega) (by omega);generalize a*b=p at h⊢;refine⟨by omega,Nat.mod_lt _ (by decide),?_⟩;rw[Nat.div_lt_iff_lt_mul (by decide)];omega
def bdR:Nat→Nat
 |0=>2^512
 |1=>2^290
 |2=>2^256+2^68
 |_=>2^256
set_option exponentiation.threshold 1000 in
theorem Qf (k L H:Nat) (hk:k≤3) (hL:L<2^256) (h:L+2^256*H<bdR k) (hh:2^256≤L+2^256*H):k+1≤3∧L+H*dF<bdR (k+1):=by
 rcases (show k=0∨k=1∨k=2∨k=3 by omega) with rfl|rfl|rfl|rfl
 · have h':L+2^256*H<2^512:=h
   have h2:H<2^256:=by
    rcases Nat.lt_or_ge H (2^256) with hh|hh
    · exact hh
    have:=Nat.mul_le_mul_left (2^256) hh;rw[←Nat.pow_add] at this;have e:(2:Nat)^512=2^(256+256):=rfl;rw[e] at h';exact absurd (Nat.lt_of_le_of_lt (agx this (Nat.le_add_left _ L)) h') (Nat.lt_irrefl _)
   refine⟨by omega,?_⟩;have h3:H*dF<2^256*dF:=Nat.mul_lt_mul_of_pos_right h2 (by decide);have h4:(2:Nat)^256*dF+2^256≤2^290:=by decide+kernel
   show L+H*dF<2^290;generalize (2:Nat)^290=p at*;generalize (2:Nat)^256*dF=q at*;omega
 · have h':L+2^256*H<2^290:=h
   have h2:H<2^34:=by
    rcases Nat.lt_or_ge H (2^34) with hh|hh
    · exact hh
    have:=Nat.mul_le_mul_left (2^256) hh;rw[←Nat.pow_add] at this;have e:(2:Nat)^290=2^(256+34):=rfl;rw[e] at h';exact absurd (Nat.lt_of_le_of_lt (agx this (Nat.le_add_left _ L)) h') (Nat.lt_irrefl _)
   refine⟨by omega,?_⟩;show L+H*dF<2^256+2^68;simp only[dF];omega
 · have h':L+2^256*H<2^256+2^68:=h
   refine⟨by omega,?_⟩;show L+H*dF<2^256;simp only[dF];omega
 have h':L+2^256*H<2^256:=h;omega
set_option exponentiation.threshold 1000 in
theorem LB {T:List Nat} (hb:∀t∈T,t<4294967296) (i:Nat) (hi:i≤17):wu (T.take 8)+lP T i*dF<2^544:=by
 have h1:=xI hb;have h2:=Zt hb i hi;simp only[dF];omega
set_option exponentiation.threshold 1000 in
theorem BC {N:List Nat} {c S:Nat} (h:wu N+c*2^(32*17)=S) (hS:S<2^544):c=0:=by
 rcases Nat.eq_zero_or_pos c with h0|h0
 · exact h0
 exfalso;have h1:1*2^(32*17)≤c*2^(32*17):=Nat.mul_le_mul_right _ h0;rw[show 32*17=544 from rfl] at h h1;generalize (2:Nat)^544=p at*;omega
theorem Qg {T:List Nat} (hl:T.length=17):(wu (T.take 8)+lP T 17*dF)%al=wu T%al:=by
 rw[Qd T hl,CT al dF _ _ Qa,←se T hl]
end Go.Proofs.YtcjioogololnoaaGreatDoor
namespace Go.Proofs.YtcjioogololnoaaGreatDoor
open Go Go.RowKit Go.Shelf
theorem fi (n:Nat):(R8 n).all (·.oneCell')=true:=ve _
theorem aC (n:Nat):(Tryz.prog.info? 121).map (·.size)=some (R8 n).size:=BA (aS 8 n)
theorem LD:(Tryz.prog.info? 236).map (·.size)=some 17:=by kernel_rfl
theorem GF {T:List Nat} (h:T.length=17):(Tryz.prog.info? 236).map (·.size)=some (cL T).toArray.size:=by
 have:(cL T).toArray.size=17:=by simp[cL,h]
 rw[this];exact LD
theorem fw:al<2^256:=by decide+kernel
theorem xJ {v:Nat} (h:v<2^256) (yE:¬v<al):v-al<2^256∧(v-al)%al=v%al∧v-al<al:=by
 refine⟨by omega,(Nat.mod_eq_sub_mod (by omega)).symm,?_⟩;have h2:=Qa;simp only[dF] at h2;omega
structure RedAt (w W:World) (G D:Nat) (T:List Nat):Prop where
 rt:W.heap[G]?=some (.cells (cL T).toArray 236 (0,0))
 rm:W.heap[G+1]?=some (.cells (R8 al) 121 (0,0))
 ro:W.heap[G+1+1]?=some (.cells (R8 0) 121 (0,0))
 rd:W.heap[D]?=some (.cells (R8 dF) 121 (0,0))
 hG:w.heap.size=G
 hD:G+3≤D
 hb:Below w.heap.size w W
theorem RedAt.lt {w W:World} {G D:Nat} {T:List Nat} (h:RedAt w W G D T):D<W.heap.size:=aJ h.rd
theorem RedAt.grown {w W W':World} {G D r:Nat} {T:List Nat} (h:RedAt w W G D T) (hg:W.grownBy W' (some r)) (hr:D<r):RedAt w W' G D T where
 rt:=(hg.block G (aJ h.rt) (by have:=h.hD;intro e;cases e;omega)).trans h.rt
 rm:=(hg.block (G+1) (aJ h.rm) (by have:=h.hD;intro e;cases e;omega)).trans h.rm
 ro:=(hg.block (G+1+1) (aJ h.ro) (by have:=h.hD;intro e;cases e;omega)).trans h.ro
 rd:=(hg.block D (aJ h.rd) (by intro e;cases e;omega)).trans h.rd
 hG:=h.hG
 hD:=h.hD
 hb:=h.hb.grown hg h.hb.size (fun _ e=>by cases e;have:=h.hG;have:=h.hD;omega)
theorem RedAt.below {w W W':World} {G D:Nat} {T:List Nat} (h:RedAt w W G D T) (hb:Below W.heap.size W W'):RedAt w W' G D T where
 rt:=(hb.block G (aJ h.rt)).trans h.rt
 rm:=(hb.block (G+1) (aJ h.rm)).trans h.rm
 ro:=(hb.block (G+1+1) (aJ h.ro)).trans h.ro
 rd:=(hb.block D (aJ h.rd)).trans h.rd
 hG:=h.hG
 hD:=h.hD
 hb:=h.hb.trans (hb.mono h.hb.size)
theorem xK {W0 W:World} {g:Nat} (h:W0.grownBy W (some g)) (cs:Array Value):W0.grownBy (W.setRow g cs) (some g) where
 os:=h.os
 tape:=h.tape
 output:=h.output
 size:=by have:=h.size;rw[Go.size_setRow];exact this
 block:=fun k hk dt=>(setRow_other W g k cs (fun e=>dt (by rw[e]))).trans (h.block k hk dt)
theorem RedAt.setT {w W:World} {G D:Nat} {T:List Nat} (h:RedAt w W G D T) (N:List Nat):RedAt w (W.setRow G (cL N).toArray) G D N where
 rt:=agd _ _ _ _ _ _ h.rt
 rm:=(setRow_other W G (G+1) _ (by omega)).trans h.rm
 ro:=(setRow_other W G (G+1+1) _ (by omega)).trans h.ro
 rd:=(setRow_other W G D _ (by have:=h.hD;omega)).trans h.rd
 hG:=h.hG
 hD:=h.hD
 hb:=ah h.hb (by have:=h.hG;omega) _
set_option exponentiation.threshold 1000 in
theorem xL (T0:List Nat) (hl:T0.length=17) (hb:∀t∈T0,t<4294967296) (hT:wu T0<2^512) (w:World):
 Calls Tryz.prog 185 #[.agg (cL T0).toArray,.agg (R8 al)] w fun e W'=>e=.returned (.agg (R8 (wu T0%al)))∧Below w.heap.size w W':=by
 have bW:Tryz.prog.follows .mixedOrders=true:=by kernel_rfl
 obtain⟨R,hR⟩:∃R,R=wu T0%al:=⟨_,rfl⟩;rw[←hR];obtain⟨TA,hTA⟩:∃TA,TA=(cL T0).toArray:=⟨_,rfl⟩;rw[←hTA];have Na:=fun W=>mz 0 al (by decide) fw W
 rw[abS] at Na;have hZ:R8 0=#[.int .u32 0,.int .u32 0,.int .u32 0,.int .u32 0,.int .u32 0,.int .u32 0,.int .u32 0,.int .u32 0]:=by kernel_rfl
 rw[hZ] at Na;have abU:=aa Na;obtain⟨W0,aM⟩:∃W0,W0=((w.alloc (.cells TA 236)).alloc (.cells (R8 al) 121)).alloc (.cells (R8 0) 121):=⟨_,rfl⟩;have h3:=yX w (.cells TA 236) (.cells (R8 al) 121) (.cells (R8 0) 121);have dh:Hid (Below w.heap.size w W0):=aa (by rw[aM];exact(((af5 _ w).alloc (af2 _) _).alloc (by simp) _).alloc (by simp;omega) _);rw[←aM] at h3;have iC:W0.heap.size=w.heap.size+3:=by rw[aM];simp
 rw[hZ] at aM;have H3:=aa h3;have HR:=aa hR;have HTA:=aa hTA;have kM:=aa iC;have gJ:=aa aM;have MN:Hid (T0.length=17∧(∀t∈T0,t<4294967296)∧wu T0<2^512):=aa ⟨hl,hb,hT⟩;clear hR hTA Na hZ aM h3 iC hl hb hT;go_enter Tryz.func185,Tryz.ntmps185;go_wp2_with (first|(refine aga rfl 121 (.tmp 3) rfl (w.heap.size+1) rfl 121 (R8 al) (0,0) _ (by rw[←gJ.out];exact H3.out.2.1) Tryz.underlying121 rfl (aC _) ?_;refine(show W0=_ from gJ.out)▸?_));refine(abU.out _).mono ?_;rintro e w1 ⟨rfl,aZ⟩;have gq:W0.heap.size≤w1.heap.size:=aZ.size;obtain⟨D,hD⟩:=ab w1.heap.size;obtain⟨G,hG⟩:=ab w.heap.size;obtain⟨w2,iN⟩:=ab (w1.alloc (.cells (R8 dF) 121))
 have hR0:RedAt w w2 G D T0:=by
  have k1:∀g o,W0.heap[g]?=some o→w2.heap[g]?=some o:=fun g o h=>by
   rw[iN];exact eV ((aZ.block g (aJ h)).trans h)
  obtain⟨r1,r2,r3⟩:=H3.out;rw[HTA.out] at r1;rw[←hG] at r1 r2 r3;exact⟨k1 _ _ r1,k1 _ _ r2,k1 _ _ r3,by rw[iN,hD];exact af4 w1 _,hG.symm,by have:=kM.out;omega,by rw[iN];exact(dh.out.trans (aZ.mono dh.out.size)).alloc (by have:=dh.out.size;omega) _⟩
 have Tj:=aa hR0;have HD:=aa hD;have Hw2:=aa iN;rw[←hG];clear hR0 hG hD iN aZ gq abU H3 kM gJ;go_wp2_with (first|(refine af6 rfl 121 (.tmp 5) (.tmp 22) rfl w1.heap.size (R8 dF) rfl rfl 121 _ (af4 w1 _) (aC _) rfl (fi _) ?_;rw[agi];rw[←HD.out,←Hw2.out];clear HD Hw2));go_loopw [6] (fun kv wr=>∃(k:Nat) (T:List Nat),k≤3∧kv=.int .i64 k∧Hid (T.length=17∧(∀t∈T,t<4294967296)∧wu T<bdR k∧wu T%al=R)∧RedAt w wr G D T) (fun kv _=>6-(intOf kv).toNat)
 case atStart=>exact⟨0,T0,by omega,rfl,aa ⟨MN.out.1,MN.out.2.1,MN.out.2.2,HR.out.symm⟩,Tj.out⟩
 case round=>
  obtain⟨k,T,hk,rfl,HT,hA⟩:=hrel;have HA:=aa hA;clear Tj hA;go_wp2_with fail;go_loopw [7,8] (fun hv iv wh=>wh=wr∧∃(i:Nat) (b:Bool),8≤i∧i≤17∧iv=.int .i64 i∧hv=.bool b∧Hid (b=decide (2^256≤wu (T.take i)))) (fun _ iv _=>17-(intOf iv).toNat)
  case atStart=>exact⟨rfl,8,false,by omega,by omega,rfl,rfl,aa (af8 (by have:=xI HT.out.2.1;omega)).symm⟩
  case round=>
   obtain⟨rfl,i,b,hi8,ad3,rfl,rfl,HB⟩:=hrel
   by_cases aL:i<17
   · have vc:i<T.length:=by rw[HT.out.1];exact aL
     obtain⟨x,hx⟩:∃x,x=T[i]:=⟨_,rfl⟩;have cT:=cO HA.out.rt vc;rw[←hx] at cT
     have HN:Hid (b=false→((x:Int)!=0)=decide (2^256≤wu (T.take (i+1)))):=aa (fun Zu=>by
      have e:=HB.out;rw[Zu] at e;have nh:¬2^256≤wu (T.take i):=by have:=e.symm;exact of_decide_eq_false this
      have hwh:=Jm T i hi8 vc;rw[←hx] at hwh;rw[decide_eq_decide.2 hwh]
      by_cases h0:x=0
      · rw[af8 (by rintro(h|h);exact nh h;exact h h0),h0];rfl
      rw[af9 (.inr h0)];exact bne_iff_ne.2 (by omega))
     have HY:Hid (b=true→true=decide (2^256≤wu (T.take (i+1)))):=aa (fun hbt=>by
      have e:=HB.out;rw[hbt] at e;rw[decide_eq_decide.2 (Jm T i hi8 vc)];exact(af9 (.inl (of_decide_eq_true e.symm))).symm)
     clear hx vc
     cases b with
     |true=>
      go_wp2_with fail;exact⟨⟨trivial,i+1,true,by omega,by omega,by go_num,rfl,aa (HY.out rfl)⟩,by simp only[intOf];omega⟩
     |false=>
      go_wp2_with fail;exact⟨⟨trivial,i+1,_,by omega,by omega,by go_num,rfl,aa (HN.out rfl)⟩,by simp only[intOf];omega⟩
   obtain rfl:i=17:=by omega
   cases b with
   |true=>
    have hbig:2^256≤wu T:=by
     have e:=HB.out;rw[af7 (by rw[HT.out.1];omega)] at e;exact of_decide_eq_true e.symm
    have ad4:=aa hbig;obtain⟨W3,iF⟩:∃W3,W3=wr.alloc (.cells (cL (List.replicate 17 0)).toArray 236):=⟨_,rfl⟩;obtain⟨gN,ki⟩:=ab wr.heap.size;have hA3:RedAt w W3 G D T:=HA.out.below (by rw[iF];exact(af5 _ _).alloc (af2 _) _);have gN3:W3.heap[gN]?=some (.cells (cL (uL T 17 0)).toArray 236 (0,0)):=by rw[iF,ki,D6];exact af4 wr _
    have hDN:D<gN:=by rw[ki];exact HA.out.lt
    have Zv:=aa hA3;have GN3:=aa gN3;have pd:=aa iF;have HgN:=aa ki;have Zw:=aa hDN;clear hbig hA3 gN3 iF ki hDN HB;go_wp2_with fail;refine(show W3=_ from pd.out)▸?_;rw[←HgN.out];clear pd HgN HA;go_loopw [10] (fun iv wc=>∃i:Nat,i≤8∧iv=.int .i64 i∧wc.heap[gN]?=some (.cells (cL (uL T 17 i)).toArray 236 (0,0))∧W3.grownBy wc (some gN)) (fun iv _=>8-(intOf iv).toNat)
    case atStart=>exact⟨0,by omega,rfl,GN3.out,cV _ _⟩
    case round=>
     obtain⟨i,hi,rfl,gC,hg⟩:=hrel
     by_cases aL:i<8
     · have vc:i<T.length:=by rw[HT.out.1];omega
       have kn:=Jl T 17 i (by omega) vc;obtain⟨x,hx⟩:∃x,x=T[i]:=⟨_,rfl⟩;have cT:=cO (Zv.out.grown hg Zw.out).rt vc;have Uh:i<(uL T 17 i).length:=by rw[qM T 17 i (by omega) (by omega)];omega
       have cN:=cO gC Uh;generalize (uL T 17 i)[i]=y at cN;rw[←hx] at cT kn;have zN:=bV gC i;have vL:=aa kn;have GC:=aa gC;have Hg:=aa hg;clear kn hx vc Uh gC hg;go_wp2_with fail;exact⟨⟨i+1,by omega,by go_num,by rw[kF GC.out,vL.out],be Hg.out _ _⟩,by simp only[intOf];omega⟩
     obtain rfl:i=8:=by omega
     have HN8:Hid ((uL T 17 8).length=17∧(∀t∈uL T 17 8,t<4294967296)∧wu (uL T 17 8)=wu (T.take 8)+lP T 8*dF):=aa ⟨qM T 17 8 (by omega) (by rw[HT.out.1];omega),Zq HT.out.2.1 17 8,by rw[Zr,abT,Nat.zero_mul,Nat.add_zero]⟩;have GC:=aa gC;have Hg:=aa hg;clear gC hg GN3;go_wp2_with fail;go_loopw [11] (fun iv wi=>∃(i:Nat) (N:List Nat),8≤i∧i≤17∧iv=.int .i64 i∧Hid (N.length=17∧(∀t∈N,t<4294967296)∧wu N=wu (T.take 8)+lP T i*dF)∧wi.heap[gN]?=some (.cells (cL N).toArray 236 (0,0))∧W3.grownBy wi (some gN)) (fun iv _=>17-(intOf iv).toNat)
     case atStart=>exact⟨8,uL T 17 8,by omega,by omega,rfl,HN8.out |> aa,GC.out,Hg.out⟩
     case round=>
      clear GC Hg HN8;obtain⟨i,N,hi8,ad3,rfl,HN,gC,hg⟩:=hrel
      by_cases aL:i<17
      · have vc:i<T.length:=by rw[HT.out.1];exact aL
        obtain⟨a,ha⟩:∃a,a=T[i]:=⟨_,rfl⟩;have Zx:a<4294967296:=by rw[ha];exact HT.out.2.1 _ (agl _)
        obtain⟨q,hq⟩:∃q,q=i-8:=⟨_,rfl⟩;obtain⟨Zy,Ui⟩:∃Zy,Zy=wu (T.take 8)+lP T (i+1)*dF:=⟨_,rfl⟩
        have hS:wu N+a*dF*2^(32*q)=Zy:=by
         rw[Ui,Qe T i hi8 vc,HN.out.2.2,←ha,←hq,Nat.add_mul,Nat.mul_right_comm a];omega
        have hTB:Zy<2^544:=by rw[Ui];exact LB HT.out.2.1 (i+1) (by omega)
        obtain⟨S,Ax⟩:=ab (wu N);rw[←Ax] at hS;have Ha:=aa ha;have Hq:=aa hq;have ad5:=aa Ui;have HS:=aa hS;have HTB:=aa hTB;have Od:Hid (N.length=17∧(∀t∈N,t<4294967296)∧wu N+0*2^(32*(q+0))=S+a*wu ((nu 8 dF).take 0)*2^(32*q)):=aa ⟨HN.out.1,HN.out.2.1,by rw[Ax];simp[wu]⟩;have GC:=aa gC;have Hg:=aa hg;clear ha hq Ui hS hTB Ax gC hg HN;go_wp2_with fail;go_loopw [12,13] (fun cv jv wj=>∃(j c:Nat) (U:List Nat),j≤8∧jv=.int .i64 j∧cv=.int .u64 c∧c<4294967296∧Hid (U.length=17∧(∀t∈U,t<4294967296)∧wu U+c*2^(32*(q+j))=S+a*wu ((nu 8 dF).take j)*2^(32*q))∧wj.heap[gN]?=some (.cells (cL U).toArray 236 (0,0))∧W3.grownBy wj (some gN)) (fun _ jv _=>8-(intOf jv).toNat)
        case atStart=>exact⟨0,0,N,by omega,rfl,rfl,by omega,aa Od.out,GC.out,Hg.out⟩
        case round=>
         clear GC Hg Od;obtain⟨j,c,U,Rn,rfl,rfl,hc,HU,gC,hg⟩:=hrel;have RP:=Zv.out.grown hg Zw.out
         by_cases LG:j<8
         · obtain⟨p,hp⟩:∃p,p=q+j:=⟨_,rfl⟩
           have hq9:q+8=i:=by have:=Hq.out;omega
           have LH:p<17:=by omega
           have Wh:(i:Int)-8+(j:Int)=(p:Int):=by omega
           have hpU:p<U.length:=by rw[HU.out.1];exact LH
           have hjD:j<(nu 8 dF).length:=by rw[aS];exact LG
           obtain⟨t,ht⟩:∃t,t=U[p]:=⟨_,rfl⟩;obtain⟨d,hd⟩:∃d,d=(nu 8 dF)[j]:=⟨_,rfl⟩;have Uj:t<4294967296:=by rw[ht];exact HU.out.2.1 _ (agl _)
           have wG:d<4294967296:=by rw[hd];exact np 8 dF _ (agl _)
           have cT:=cO RP.rt (k:=i) (by rw[HT.out.1];exact aL);rw[←Ha.out] at cT;have cD:=cO (T:=nu 8 dF) RP.rd hjD;rw[←hd] at cD;have cN:=cO gC hpU;rw[←ht] at cN;have zN:=bV gC p;obtain⟨m1,m2,m3⟩:=Wg a d t c Zx wG Uj hc;obtain⟨m,hm⟩:∃m,m=a*d:=⟨_,rfl⟩;have U1:(a:Int)*(d:Int)=(m:Int):=by rw[hm];push_cast;rfl
           rw[←hm] at m1 m2 m3
           have nz:=Jn U (nu 8 dF) q j a c ((m+t+c)/4294967296) ((m+t+c)%4294967296) S (by omega) hjD (by
            have e1:U[q+j]'(by omega)=t:=by rw[ht];congr 1;exact hp.symm
            rw[e1,←hd,←hm];omega) HU.out.2.2
           rw[←hp] at nz;obtain⟨s,hs⟩:∃s,s=m+t+c:=⟨_,rfl⟩;have hsI:(m:Int)+(t:Int)+(c:Int)=(s:Int):=by omega
           rw[←hs] at m1 m2 m3 nz;have Qh:=aa nz;have HUs:=aa (oM HU.out.2.1 m2 p);have ra:Hid ((U.set p (s%4294967296)).length=17):=aa (by rw[List.length_set];exact HU.out.1);have GC:=aa gC;have Hg:=aa hg;have M3:=aa m3;clear hp ht hd hm hs nz gC hg hpU hjD RP m2 m3 hq9;have hjt:decide ((j:Int)<8)=true:=af9 (by omega);have hpt:decide ((p:Int)<17)=true:=af9 (by omega);go_wp2_with fail;refine an [(0,0),(1,0),(2,1),(3,0),(4,0),(5,0),(6,1),(7,0),(8,0),(9,0),(10,0),(11,0),(12,0),(13,0),(14,1),(15,0),(16,0),(17,0),(18,0),(19,0)] 20 bW (by kernel_rfl) (by intro c a d v w h;cases d<;>exact h) ?_
           repeat ((first|refine ag rfl fun K hK=>?_|refine af rfl fun K hK=>?_);go_simp;(first|refine hK _ ?_|(simp only[IntWalk.iteOmega];go_simp;refine hK _ ?_)|(go_bits;go_simp;refine hK _ ?_));clear hK K;try go_bits)
           refine ak ?_;go_wp2_with fail;go_simp;have jY:(s:Int)%4294967296=((s%4294967296:Nat):Int):=by omega
           rw[jY];exact⟨⟨j+1,by omega,by omega,s/4294967296,by omega,M3.out,U.set p (s%4294967296),aa ⟨ra.out,HUs.out,Qh.out⟩,by rw[heap_drew,kF GC.out],eQ (be Hg.out _ _)⟩,by simp only[intOf];omega⟩
         obtain rfl:j=8:=by omega
         have hjf:decide (((8:Nat):Int)<8)=false:=by decide
         have HU8:Hid (U.length=17∧(∀t∈U,t<4294967296)∧wu U+c*2^(32*i)=Zy):=aa ⟨HU.out.1,HU.out.2.1,by
          have e:=HU.out.2.2;rw[af7 (by rw[aS];omega),lk 8 dF (by decide),HS.out,show q+8=i by have:=Hq.out;omega] at e;exact e⟩
         have GC:=aa gC;have Hg:=aa hg;clear gC hg RP;go_wp2_with fail;go_loopw [12,15] (fun cv jv wj=>∃(j c:Nat) (U:List Nat),i≤j∧j≤17∧jv=.int .i64 j∧cv=.int .u64 c∧c<4294967296∧Hid (U.length=17∧(∀t∈U,t<4294967296)∧wu U+c*2^(32*j)=Zy)∧wj.heap[gN]?=some (.cells (cL U).toArray 236 (0,0))∧W3.grownBy wj (some gN)) (fun _ jv _=>17-(intOf jv).toNat)
         case atStart=>exact⟨i,c,U,by omega,by omega,rfl,rfl,hc,aa HU8.out,GC.out,Hg.out⟩
         case round=>
          clear GC Hg HU8 hjf HU;obtain⟨j,c,U,Rj,afA,rfl,rfl,hc,HU,gC,hg⟩:=hrel
          have HSn:c=0→Hid (U.length=17∧(∀t∈U,t<4294967296)∧wu U=wu (T.take 8)+lP T (i+1)*dF):=fun h0=>aa ⟨HU.out.1,HU.out.2.1,by
           have e:=HU.out.2.2;rw[h0,Nat.zero_mul,Nat.add_zero] at e;rw[e,ad5.out]⟩
          by_cases hlj:j<17
          · have hjt:decide ((j:Int)<17)=true:=af9 (by omega)
            by_cases iu:c=0
            · have HF:=HSn iu
              subst iu;have GC:=aa gC;have Hg:=aa hg;clear gC hg HSn HU;go_wp2_with fail;exact⟨⟨i+1,U,by omega,by omega,by go_num,HF,GC.out,Hg.out⟩,by simp only[intOf];omega⟩
            have hcI:decide ((0:Int)<(c:Int))=true:=af9 (by omega);have hcN:decide (0<c)=true:=af9 (by omega);have Oc:j<U.length:=by rw[HU.out.1];exact hlj
            obtain⟨t,ht⟩:∃t,t=U[j]:=⟨_,rfl⟩;have Uj:t<4294967296:=by rw[ht];exact HU.out.2.1 _ (agl _)
            have cN:=cO gC Oc;rw[←ht] at cN;have zN:=bV gC j;obtain⟨s,hs⟩:∃s,s=t+c:=⟨_,rfl⟩;have nz:=Lx U j c (s/4294967296) (s%4294967296) Zy Oc (by rw[←ht,←hs];omega) HU.out.2.2;have HUs:=aa (oM HU.out.2.1 (show s%4294967296<4294967296 from Nat.mod_lt _ (by decide)) j);have ra:Hid ((U.set j (s%4294967296)).length=17):=aa (by rw[List.length_set];exact HU.out.1);have hsI:(t:Int)+(c:Int)=(s:Int):=by omega
            have CF:s<8589934592:=by omega
            have Qh:=aa nz;have GC:=aa gC;have Hg:=aa hg;clear gC hg HSn HU nz hs ht Oc;go_wp2_with fail;have jY:(s:Int)%4294967296=((s%4294967296:Nat):Int):=by omega
            have px:(s:Int)/4294967296=((s/4294967296:Nat):Int):=by omega
            rw[jY,px];exact⟨⟨j+1,s/4294967296,U.set j (s%4294967296),by omega,by omega,by go_num,rfl,by omega,aa ⟨ra.out,HUs.out,Qh.out⟩,kF GC.out,be Hg.out _ _⟩,by simp only[intOf];omega⟩
          obtain rfl:j=17:=by omega
          have iu:c=0:=BC HU.out.2.2 HTB.out;have HF:=HSn iu;subst iu;have GC:=aa gC;have Hg:=aa hg;clear gC hg HSn HU;go_wp2_with fail;exact⟨⟨i+1,U,by omega,by omega,by go_num,HF,GC.out,Hg.out⟩,by simp only[intOf];omega⟩
      obtain rfl:i=17:=by omega
      have RP:=Zv.out.grown hg Zw.out;obtain⟨nq,hbd⟩:=Qf k (wu (T.take 8)) (wu (T.drop 8)) (by omega) (xI HT.out.2.1) (by rw[←se T HT.out.1];exact HT.out.2.2.1) (by rw[←se T HT.out.1];exact ad4.out);have HNk:Hid (N.length=17∧(∀t∈N,t<4294967296)∧wu N<bdR (k+1)∧wu N%al=R):=aa ⟨HN.out.1,HN.out.2.1,by rw[HN.out.2.2,Qd T HT.out.1];exact hbd,by rw[HN.out.2.2,Qg HT.out.1];exact HT.out.2.2.2⟩;have abV:=aa (GF HN.out.1);have ad6:Hid ((cL T).toArray.size=(cL N).toArray.size):=aa (by simp[cL,HT.out.1,HN.out.1]);have HRA:=aa RP;have GC:=aa gC;clear RP gC hg hbd;go_wp2_with (first|(refine aga rfl 236 (.tmp 9) rfl gN rfl 236 (cL N).toArray (0,0) _ GC.out Tryz.underlying236 rfl abV.out ?_)|(refine af6 rfl 236 (.tmp 2) (.tmp 113) rfl G (cL N).toArray rfl rfl 236 _ HRA.out.rt abV.out ad6.out (ve _) ?_));exact⟨⟨k+1,N,nq,by go_num,HNk,HRA.out.setT N⟩,by simp only[intOf];omega⟩
   |false=>
    have VQ:wu T<2^256:=by
     have e:=HB.out;rw[af7 (by rw[HT.out.1];omega)] at e;have:=of_decide_eq_false e.symm;omega
    obtain⟨V,hV⟩:=ab (wu T);have hT8:T.take 8=nu 8 V:=by rw[hV];exact Qc HT.out.1 HT.out.2.1 VQ
    have HV:Hid (V<2^256∧V%al=R):=aa ⟨by rw[hV];exact VQ,by rw[hV];exact HT.out.2.2.2⟩;have HT8:=aa hT8;obtain⟨W3,iF⟩:∃W3,W3=wr.alloc (.cells (cL (List.replicate 8 0)).toArray 121):=⟨_,rfl⟩;obtain⟨gN,ki⟩:=ab wr.heap.size;have hA3:RedAt w W3 G D T:=HA.out.below (by rw[iF];exact(af5 _ _).alloc (af2 _) _);have gN3:W3.heap[gN]?=some (.cells (cL (uL T 8 0)).toArray 121 (0,0)):=by rw[iF,ki,D6];exact af4 wr _
    have hDN:D<gN:=by rw[ki];exact HA.out.lt
    have Zv:=aa hA3;have GN3:=aa gN3;have pd:=aa iF;have HgN:=aa ki;have Zw:=aa hDN;clear VQ hV hT8 hA3 gN3 iF ki hDN HB;go_wp2_with fail;refine(show W3=_ from pd.out)▸?_;rw[←HgN.out];clear pd HgN HA;go_loopw [18] (fun iv wc=>∃i:Nat,i≤8∧iv=.int .i64 i∧wc.heap[gN]?=some (.cells (cL (uL T 8 i)).toArray 121 (0,0))∧W3.grownBy wc (some gN)) (fun iv _=>8-(intOf iv).toNat)
    case atStart=>exact⟨0,by omega,rfl,GN3.out,cV _ _⟩
    case round=>
     obtain⟨i,hi,rfl,gC,hg⟩:=hrel
     by_cases aL:i<8
     · have vc:i<T.length:=by rw[HT.out.1];omega
       have kn:=Jl T 8 i (by omega) vc;obtain⟨x,hx⟩:∃x,x=T[i]:=⟨_,rfl⟩;have cT:=cO (Zv.out.grown hg Zw.out).rt vc;have Uh:i<(uL T 8 i).length:=by rw[qM T 8 i (by omega) (by omega)];omega
       have cN:=cO gC Uh;generalize (uL T 8 i)[i]=y at cN;rw[←hx] at cT kn;have zN:=bV gC i;have vL:=aa kn;have GC:=aa gC;have Hg:=aa hg;clear kn hx vc Uh gC hg;go_wp2_with fail;exact⟨⟨i+1,by omega,by go_num,by rw[kF GC.out,vL.out],be Hg.out _ _⟩,by simp only[intOf];omega⟩
     obtain rfl:i=8:=by omega
     have gC':wr.heap[gN]?=some (.cells (R8 V) 121 (0,0)):=by
      have e:uL T 8 8=nu 8 V:=by rw[uL,HT8.out];simp
      rw[gC,e];rfl
     have V4:=aa (Zv.out.grown hg Zw.out);have GC:=aa gC';clear gC gC' hg GN3 Zv;go_wp2_with fail;go_loopw [19] (fun kv wc=>∃(k v:Nat),k≤1∧kv=.int .i64 k∧Hid (v<2^256∧v%al=R∧(k=1→v<al))∧wc.heap[gN]?=some (.cells (R8 v) 121 (0,0))∧RedAt w wc G D T) (fun kv _=>3-(intOf kv).toNat)
     case atStart=>exact⟨0,V,by omega,rfl,aa ⟨HV.out.1,HV.out.2,by omega⟩,GC.out,V4.out⟩
     case round=>
      clear GC V4;obtain⟨k,v,nq,rfl,Hv,gC,RP⟩:=hrel;have hkt:decide ((k:Int)<3)=true:=af9 (by omega);have HL:=aa (sa v al Hv.out.1 fw);have GC:=aa gC;have HRA:=aa RP;clear gC RP;go_wp2_with (first|(refine cF (by rfl) 121 (.tmp 17) rfl gN rfl 121 (R8 v) (0,0) _ GC.out Tryz.underlying121 rfl (aC _) ?_)|(refine cF (by rfl) 121 (.tmp 3) rfl (G+1) rfl 121 (R8 al) (0,0) _ HRA.out.rm Tryz.underlying121 rfl (aC _) ?_));refine(HL.out _).mono ?_;rintro e w3 ⟨rfl,bd⟩;have hR3:=HRA.out.below bd;have gC3:=(bd.block gN (aJ GC.out)).trans GC.out;have Zz:=aa hR3;have Wi:=aa gC3;clear hR3 gC3 bd HRA GC HL
      by_cases Uk:v<al
      · have hvR:v=R:=by rw[←Hv.out.2.1,agA Uk]
        rw[af9 Uk];have HvR:=aa hvR;clear hvR Uk;go_wp2_with (first|(refine aga rfl 121 (.tmp 17) rfl gN rfl 121 (R8 v) (0,0) _ Wi.out Tryz.underlying121 rfl (aC _) ?_)|(refine af6 rfl 121 (.tmp 4) (.tmp 136) rfl (G+1+1) (R8 v) rfl rfl 121 _ Zz.out.ro (aC _) rfl (fi _) ?_));refine agf (v:=.agg (R8 v)) ?_ rfl ⟨by rw[HvR.out],ah Zz.out.hb (by have:=Zz.out.hG;omega) _⟩;exact ags rfl _ _ (G+1+1) 121 (R8 v) (0,0) _ rfl (agd _ _ _ _ _ _ Zz.out.ro) Tryz.underlying121 rfl (aC _)
      have ls:k=0:=by
       rcases (show k=0∨k=1 by omega) with h|h
       · exact h
       exact absurd (Hv.out.2.2 h) Uk
      subst ls;rw[af8 Uk]
      have oV:(v+2^256-al)%2^256=v-al:=by
       have h1:=Hv.out.1;have h2:=fw;generalize (2:Nat)^256=p at*;rw[show v+p-al=v-al+p by omega,Nat.add_mod_right,agA (by omega)]
      have hM:=fun W=>mz v al Hv.out.1 fw W
      rw[oV] at hM;have ny:Hid (v-al<2^256∧(v-al)%al=R∧(1=1→v-al<al)):=aa ⟨(xJ Hv.out.1 Uk).1,(xJ Hv.out.1 Uk).2.1.trans Hv.out.2.1,fun _=>(xJ Hv.out.1 Uk).2.2⟩;have HM:=aa hM;clear hM oV Uk;go_wp2_with (first|(refine aga rfl 121 (.tmp 17) rfl gN rfl 121 (R8 v) (0,0) _ Wi.out Tryz.underlying121 rfl (aC _) ?_)|(refine aga rfl 121 (.tmp 3) rfl (G+1) rfl 121 (R8 al) (0,0) _ Zz.out.rm Tryz.underlying121 rfl (aC _) ?_));refine(HM.out _).mono ?_;rintro e w4 ⟨rfl,dn⟩;have HR4:=aa (Zz.out.below dn);have GC4:=aa ((dn.block gN (aJ Wi.out)).trans Wi.out);clear dn Zz Wi HM;obtain⟨v1,oV⟩:∃v1,v1=v-al:=⟨_,rfl⟩;rw[←oV] at ny⊢;clear oV;go_wp2_with (first|(refine af6 rfl 121 (.tmp 17) (.tmp 135) rfl gN (R8 v1) rfl rfl 121 _ GC4.out (aC _) rfl (fi _) ?_));go_simp;exact⟨⟨1,by omega,rfl,v1,aa ⟨by have:=ny.out.1;omega,ny.out.2.1,fun _=>ny.out.2.2 (by trivial)⟩,agd _ _ _ _ _ _ GC4.out,HR4.out.grown (xK (cV _ _) _) Zw.out⟩,by simp only[intOf];omega⟩
end Go.Proofs.YtcjioogololnoaaGreatDoor
