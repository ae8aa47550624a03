/- Whoever walks down with the secret signs what whoever walks down without it verifies, and the text of either walks the same way (StrongboxKeyed). No condition. -/
import Derived.Test.YtnlkdheaohocnaaGreatDoorU1
import Derived.Test.YtnlkdheaohocnaaGreatDoorU24
import Derived.Test.YtnlkdheaohocnaaGreatDoorU25
import Derived.Test.YtnlkdheaohocnaaGreatDoorU26
import Derived.Test.YtnlkdheaohocnaaGreatDoorU30
import Derived.Test.YtnlkdheaohocnaaGreatDoorU29
import Derived.Test.YtnlkdheaohocnaaGreatDoorU15
import Derived.Lib.SlBytesConst
set_option maxRecDepth 1000000
set_option maxHeartbeats 16000000
set_option linter.unusedVariables false
set_option linter.unusedSimpArgs false
namespace Go.Proofs.YtnlkdheaohocnaaGreatDoor
open Go.RowKit
theorem jZ (f:Nat) (l:List UInt8):∀z:Nat,cQ f (List.replicate z 0++l)=cQ f l
 |0=>rfl
 |z+1=>by
  rw[List.replicate_succ,adh];have h:=jZ f l z;unfold cQ at h⊢;rw[List.foldl_cons];simpa using h
theorem xK (f:Nat) (hf:1≤f) (l:List UInt8) (hl:∀d∈l,d.toNat<f):cQ f l<f^l.length:=by
 induction hn:l.length generalizing l with
 |zero=>rw[List.length_eq_zero_iff.1 hn];simp[cQ]
 |succ n ih=>
  rcases List.eq_nil_or_concat l with rfl|⟨l',d0,rfl⟩
  · simp at hn
  rw[List.concat_eq_append] at hn hl⊢;rw[lr,Nat.pow_succ];have h1:=ih l' (fun d hd=>hl d (by simp[hd])) (by simpa using hn);have h2:=hl d0 (by simp);have h3:(cQ f l'+1)*f≤f^n*f:=Nat.mul_le_mul_right f h1;rw[Nat.add_mul] at h3;omega
theorem nM (t:Nat) (ht:2≤t):∀(k c:Nat),c<t^k→(bE t c c).length≤k
 |0,c,h=>by
  obtain rfl:c=0:=by simpa using h
  simp[bE]
 |k+1,c,h=>by
  by_cases h0:c=0
  · subst h0;simp[bE]
  rw[dy t c ht (by omega),adz];have:=nM t ht k (c/t) (by rw[Nat.div_lt_iff_lt_mul (by omega)];rwa [←Nat.pow_succ]);omega
theorem u7 (m:Nat):256^m≤58^(3*((m+1)/2)):=by
 have h1:256^m≤256^(2*((m+1)/2)):=Nat.pow_le_pow_right (by omega) (by omega)
 have h2:256^(2*((m+1)/2))≤58^(3*((m+1)/2)):=by
  rw[Nat.pow_mul,Nat.pow_mul];exact Nat.pow_le_pow_left (by decide) _
 omega
theorem u9:∀b:List UInt8,∃r,b=List.replicate (lz b) 0++r∧∀d,r.head?=some d→d.toNat≠0
 |[]=>⟨[],rfl,by simp⟩
 |x::b=>by
  by_cases hx:x=0
  · obtain⟨r,h1,h2⟩:=u9 b
    refine⟨r,?_,h2⟩;simp only[lz,if_pos hx,List.replicate_succ,adh];rw[←h1,hx]
  refine⟨x::b,by simp[lz,hx],?_⟩;intro d hd e;simp at hd;subst hd;exact hx (UInt8.toNat_inj.1 (by simpa using e))
theorem PD (d:UInt8) (hd:d.toNat<58):jF (ew d)=d:=by
 have h:∀k:Fin 58,jF (ew (UInt8.ofNat k.val))=UInt8.ofNat k.val:=by decide
 have:=h ⟨d.toNat,hd⟩;simpa using this
theorem PE (d:UInt8) (hd:d.toNat<58):ew d∈bA:=by
 have h:∀k:Fin 58,ew (UInt8.ofNat k.val)∈bA:=by decide
 have:=h ⟨d.toNat,hd⟩;simpa using this
theorem PF (d:UInt8) (hd:d.toNat<58) (h:ew d=49):d.toNat=0:=by
 have hh:∀k:Fin 58,ew (UInt8.ofNat k.val)=49→k.val=0:=by decide
 have:=hh ⟨d.toNat,hd⟩ (by simpa using h);exact this
theorem I2 (z:Nat) (r:List UInt8) (h:∀d,r.head?=some d→d≠49):(List.replicate z 49++r).dropWhile (·==49)=r:=by
 induction z with
 |zero=>
  match r,h with
  |[],_=>rfl
  |x::r,h=>
   have:=h x rfl;simp[this]
 |succ z ih=>simp[List.replicate_succ,ih]
theorem y9 (l:List UInt8):∀d∈l,d.toNat<256:=fun d _=>d.toNat_lt
theorem PG (b:List UInt8) (hb:b.length≤124):eI (lH b)=(0,b):=by
 obtain⟨r,h1,h2⟩:=u9 b;obtain⟨z,hz⟩:=ae (lz b);rw[←hz] at h1;obtain⟨V,hV⟩:=ae (cQ 256 r);have hVb:cQ 256 b=V:=by rw[h1,jZ,hV]
 have qP:z+r.length=b.length:=by rw[h1];simp
 have hD:dk 256 58 b=bE 58 V V:=by rw[mT 256 58 (by omega) (by omega) (by omega),hVb]
 obtain⟨D,Rf⟩:=ae (bE 58 V V);have T7:∀d∈D,d.toNat<58:=by rw[Rf];exact wH 58 (by omega) (by omega) V
 have abB:∀d,D.reverse.head?=some d→d.toNat≠0:=by rw[Rf];exact ED 58 (by omega) (by omega) V V (adi _)
 have hlen:D.length≤3*((r.length+1)/2):=by
  rw[Rf];exact nM 58 (by omega) _ _ (ads (by rw[hV];exact xK 256 (by omega) r (y9 r)) (u7 _))
 have hs:lH b=List.replicate z 49++D.reverse.map ew:=by rw[lH,←hz,hD,Rf]
 have nh:(lH b).length=z+D.length:=by rw[hs];simp
 have dc:∀c∈lH b,c∈bA:=by
  intro c hc;rw[hs,List.mem_append] at hc;rcases hc with hc|hc
  · rw[(List.mem_replicate.1 hc).2];decide
  obtain⟨d,hd,rfl⟩:=List.mem_map.1 hc;exact PE d (T7 d (List.mem_reverse.1 hd))
 have ZE:(lH b).dropWhile (·==49)=D.reverse.map ew:=by
  rw[hs];refine I2 z _ ?_;intro d hd e;rw[List.head?_map] at hd;obtain⟨x,hx,hxd⟩:=Option.map_eq_some_iff.1 hd;exact abB x hx (PF x (T7 x (List.mem_reverse.1 (List.mem_of_mem_head? hx))) (by rw[hxd,e]))
 have Ej:(lH b).map jF=List.replicate z 0++D.reverse:=by
  rw[hs,List.map_append,List.map_replicate,List.map_map];congr 1
  conv=>rhs;rw[←List.map_id D.reverse]
  exact List.map_congr_left fun d hd=>PD d (T7 d (List.mem_reverse.1 hd))
 have ZF:dk 58 256 ((lH b).map jF)=r.reverse:=by
  rw[mT 58 256 (by omega) (by omega) (by omega),Ej,jZ,Rf,wG 58 (by omega) (by omega) V V (adi _),hV];exact(wF 256 (by omega) r (y9 r) h2).1
 rw[eI,if_neg (by omega),if_pos dc,ZF,ZE,nh,List.reverse_reverse];rw[show z+D.length-(D.reverse.map ew).length=z from by simp,←h1]
theorem MJ (b:List UInt8) (hb:b.length≤120):lp (lH (checked b))=(0,b):=by
 have h:=PG (checked b) (by rw[fI];omega);have hl:=fI b;unfold lp;rw[h];simp only[ne_eq,not_true_eq_false,if_false,hl];rw[if_neg (by omega),show b.length+4-4=b.length from by omega];have ht:(checked b).take b.length=b:=by rw[checked];simp
 have hd:(checked b).drop b.length=(oI (oI b)).take 4:=by rw[checked];simp
 rw[ht,hd,if_pos rfl]
end Go.Proofs.YtnlkdheaohocnaaGreatDoor
namespace Go.Proofs.YtnlkdheaohocnaaGreatDoor
open Go
theorem MK {k:HKey} (hk:k.Ok):uT (mS k)=k:=by
 obtain⟨dp,fg,ch,cn,da⟩:=k;have h1:fg.length=4:=hk.finger;have h2:cn.length=32:=hk.chain;have h3:ch<4294967296:=hk.child
 match fg,h1 with
 |[a,b,c,d],_=>
 have e1:(cn++da).take 32=cn:=List.take_left' h2;have e2:(cn++da).drop 32=da:=List.drop_left' h2;show HKey.mk dp [a,b,c,d] (bB (lG ch)) ((cn++da).take 32) ((cn++da).drop 32)=_;rw[e1,e2,BE ch h3]
structure I3 (k:HKey):Prop where
 ok:k.Ok
 good:k.good=true
 root:rU k=true
theorem EE {k:HKey} (h:I3 k):uV (lq k)=(0,k):=by
 have hl:=o6 h.ok;have hf:lp (lq k)=(0,mS k):=MJ (mS k) (by omega)
 have hv:bB ((mS k).take 4)=jd k.priv:=by
  show bB (lG (jd k.priv))=_;exact BE _ (by unfold jd;split<;>decide)
 rw[uV,hf,if_pos rfl];simp only[];rw[uU,if_pos hl,MK h.ok,if_pos (by simp[hv,h.good,h.root])]
theorem EF {r:Nat} (h0:0<r) (h:r<ar):dE (iI r 32)=true:=by
 rw[dE,jn r 32 (Nat.lt_trans h mP)];simp only[adx,adB];omega
theorem va {k:HKey} (h:k.depth≠255) (f:List UInt8) (n:Nat) (c d:List UInt8):rU ⟨k.depth+1,f,n,c,d⟩=true:=by
 have h1:k.depth.toNat≠255:=fun e=>h (UInt8.toNat_inj.1 e)
 have h2:=k.depth.toNat_lt
 have h3:(k.depth+1).toNat=k.depth.toNat+1:=by
  rw[UInt8.toNat_add];show (k.depth.toNat+1)%256=_;omega
 rw[rU,Bool.or_eq_true];left;show decide (0<(k.depth+1).toNat)=true;rw[h3];exact adA (by omega)
theorem Cd {hm:List UInt8→List UInt8→List UInt8} (Po:∀a b,(hm a b).length=64) {f:List UInt8} (hf:f.length=4) {k:HKey} {n:Nat} (hn:n<4294967296) (h:(dA hm f k n).1=0):I3 (dA hm f k n).2:=by
 have hc:((dz hm k n).drop 32).length=32:=by rw[adH,dz,Po]
 unfold dA at h⊢;split at h
 · cases h
 rename_i hg;rw[if_neg hg];split at h
 · cases h
 rename_i lI;rw[if_neg lI];split at h
 · cases h
 rename_i hh;rw[if_neg hh];split at h
 · cases h
 rename_i wg;rw[if_neg wg];split at h
 · rename_i hp
   rw[if_pos hp];split at h
   · cases h
   rename_i hz;rw[if_neg hz];have yF:0<ar:=Nat.lt_trans (by decide) kx.1;refine⟨⟨hf,hc,by simp[Et,aN],hn⟩,?_,va lI _ _ _ _⟩;rw[HKey.good,if_pos (show HKey.priv _=true from rfl)];exact EF (Nat.pos_of_ne_zero hz) (Nat.mod_lt _ yF)
 rename_i hp;rw[if_neg hp];split at h
 · cases h
 rename_i P hP
 have fP:eu k.data=true:=by
  have:=hg;rw[HKey.good,if_neg hp] at this;simpa using this
 have vT:=ll fz (jD fP).1 (mQ (bB ((dz hm k n).take 32)))
 cases hq:cZ bM (fH k.data) (eC (bB ((dz hm k n).take 32))) with
 |none=>exact absurd hq hP
 |some p=>
  rw[hq] at vT;have bN:(some p:Pt ak)≠none:=by simp
  refine⟨⟨hf,hc,show (fj (some p)).length=33 from jY _,hn⟩,?_,va lI _ _ _ _⟩
  have y7:HKey.priv (Et hm f k n (fj (some p)))=false:=by
   rw[HKey.priv];exact adI (show (fj (some p)).getD 0 0≠0 from uW _)
  show HKey.good (Et hm f k n (fj (some p)))=true;rw[HKey.good,if_neg (by rw[y7];decide)];exact(mK vT bN).1
theorem qH {hm:List UInt8→List UInt8→List UInt8} (Po:∀a b,(hm a b).length=64):∀(p:List Nat) (f:Nat→List UInt8) {k:HKey},I3 k→(∀i,(f i).length=4)→(∀n∈p,n<4294967296)→(cI hm k p f).1=0→I3 (cI hm k p f).2
 |[],_,_,hk,_,_,_=>hk
 |n::r,f,k,_,hf,hp,h=>by
  unfold cI at h⊢
  by_cases h0:(dA hm (f 0) k n).1=0
  · rw[if_pos h0] at h⊢
    exact qH Po r _ (Cd Po (hf 0) (hp n (by simp)) h0) (fun i=>hf (i+1)) (fun x hx=>hp x (by simp[hx])) h
  rw[if_neg h0] at h;exact absurd h h0
end Go.Proofs.YtnlkdheaohocnaaGreatDoor
namespace Go.Proofs.YtnlkdheaohocnaaGreatDoor
open Go Go.RowKit Go.Shelf
def sC:List UInt8:=[66,105,116,99,111,105,110,32,115,101,101,100]
def ls (h:List UInt8):HKey:=⟨0,[0,0,0,0],0,h.drop 32,0::h.take 32⟩
def bQ (s:List UInt8):Nat×HKey:=
 if s.length<16∨64<s.length then (2,aP)
 else if dE ((bF sC s).take 32) then (0,ls (bF sC s)) else (1,aP)
theorem nN {h:List UInt8} (hl:h.length=64):(ls h).Ok:=⟨rfl,by simp[ls,hl],by simp[ls,hl],Nat.zero_lt_succ _⟩
theorem vc {h:List UInt8}:(ls h).good=dE (h.take 32):=by
 rw[HKey.good,if_pos (show HKey.priv _=true from rfl)];rfl
theorem Cf {s:List UInt8} (h:(bQ s).1=0):I3 (bQ s).2∧(bQ s).2.priv=true:=by
 unfold bQ at h⊢;split at h
 · cases h
 rename_i h1;rw[if_neg h1];split at h
 · rename_i h2
   rw[if_pos h2];exact⟨⟨nN (dK _ _),vc.trans h2,rfl⟩,rfl⟩
 cases h
theorem xL (g:Nat) (W:World):(Instr.sliceAt 28 (.pointer (some ⟨g,0+38,none⟩)) (some (.int .i64 1)) none none).run Tryz.prog W=.ok (.slice (some ⟨g,39,none⟩) 32 32) W:=by go_simp
theorem Cg (g:Nat) (W:World):(Instr.sliceAt 24 (.pointer (some ⟨g,0+6,none⟩)) none none none).run Tryz.prog W=.ok (.slice (some ⟨g,6,none⟩) 32 32) W:=by go_simp
theorem Ch (g:Nat) (W:World):(Instr.sliceAt 45 (.pointer (some ⟨g,0,none⟩)) none (some (.int .i64 32)) none).run Tryz.prog W=.ok (.slice (some ⟨g,0,none⟩) 32 64) W:=by go_simp
theorem Ck (g:Nat) (W:World):(Instr.sliceAt 45 (.pointer (some ⟨g,0,none⟩)) (some (.int .i64 32)) none none).run Tryz.prog W=.ok (.slice (some ⟨g,32,none⟩) 32 32) W:=by go_simp
theorem ZH {w:World} {g t:Nat} {h:List UInt8} (hl:h.length=64) (hr:w.heap[g]?=some (.cells (B8 h).toArray t (0,0))):Sl w w.heap.size (some ⟨g,32,none⟩) (B8 (h.drop 32)):=fun _=>⟨g,32,rfl,(adg.1 hr).1,fun j hj=>by
 rw[adn w g _ _ t (0,0) hr,List.getElem?_toArray,←adp,kU,List.getElem?_drop]⟩
theorem ZI {w:World} {g t:Nat} {h:List UInt8} (hr:w.heap[g]?=some (.cells (B8 h).toArray t (0,0))):Sl w w.heap.size (some ⟨g,0,none⟩) (B8 (h.take 32)):=by
 rw[jg];exact Sl.take (fE hr) 32
theorem za {h:List UInt8} (hl:h.length=64):(aW aP).take 39++B8 (h.take 32)++(aW aP).drop (39+(B8 (h.take 32)).length)=aW { aP with data:=0::h.take 32 }:=by
 have lE:(h.take 32).length=32:=by simp[hl]
 rw[B8_length,lE,List.drop_of_length_le (by rw[bO aC];decide),List.append_nil];rfl
theorem zb {h:List UInt8} (hl:h.length=64):(aW { aP with data:=0::h.take 32 }).take 6++B8 (h.drop 32)++(aW { aP with data:=0::h.take 32 }).drop (6+(B8 (h.drop 32)).length)=aW (ls h):=by
 have lE:(h.drop 32).length=32:=by simp[hl]
 rw[B8_length,lE];rfl
theorem vd (A:Option Addr) (c:Nat) (s:List UInt8) (w:World) (hs:Sl w w.heap.size A (B8 s)):Calls Tryz.prog 4 #[.slice A s.length c] w fun e W'=>e=.returned (.tuple #[.agg (aW (bQ s).2).toArray,.int .i64 ((bQ s).1:Nat)])∧Below w.heap.size w W':=by
 have bx:Tryz.prog.follows .mixedOrders=true:=by kernel_rfl
 have HM:=ab (Mem.start w)
 by_cases h1:s.length<16∨64<s.length
 · have e:bQ s=(2,aP):=by rw[bQ,if_pos h1]
   rw[e];clear hs e;obtain⟨n,hn⟩:=ae s.length;rw[←hn] at h1⊢
   by_cases h2:n<16
   · go_enter Tryz.func4,Tryz.ntmps4
     go_wp2_with (first|(show wpList _ _ _ (⟨some 2,_,_,_,_,_⟩::_) _ _;refine ag 0 [(0,6),(1,0)] rfl (by kernel_rfl) ?_)|(show wpList _ _ _ (⟨some 14,_,_,_,_,_⟩::_) _ _;refine ag 0 [(0,0),(1,3),(2,0)] rfl (by kernel_rfl) ?_)|(show ai _ _ _ _ _ _ ((_,6)::_) _;refine aq HM.out rfl rfl rfl (by kernel_rfl) (bL rfl) ?_;intro W gN af;replace HM:=ab af;clear af)|(show ai _ _ _ _ _ _ ((_,0)::_) _;refine aj rfl rfl rfl (by kernel_rfl) _ (.inr rfl) (v:=.int _ _) rfl ?_)|(show ai _ _ _ _ _ _ ((_,0)::_) _;refine aM rfl rfl rfl (by kernel_rfl) 30 _ rfl kI rfl ?_)|(show ai _ _ _ _ _ _ ((_,3)::_) _;refine an HM.out 30 _ _ rfl rfl ?_;(first|(refine⟨0,_,_,_,_,rfl,rfl,rfl,rfl,rfl,(aT aC),(bt aC aC),(bf _),?_⟩));intro W af;simp only[adj,adh,List.set_cons_zero,List.set_cons_succ] at af;replace HM:=ab af;clear af)|(show ai _ _ _ _ _ _ [] _;refine ay (fun K hK=>?_);simp only[aG];go_simp;refine hK _ ?_;clear hK K));exact adm (aA rfl _ _ _ _ _ (0,0) _ rfl (HM.out.at_ 0 rfl) _ rfl Tryz.underlying30 rfl (aT aC)) rfl ⟨rfl,HM.out.hb⟩
   have h3:64<n:=by omega
   go_enter Tryz.func4,Tryz.ntmps4;go_wp2_with (first|(show wpList _ _ _ (⟨some 2,_,_,_,_,_⟩::_) _ _;refine ag 0 [(0,6),(1,0)] rfl (by kernel_rfl) ?_)|(show wpList _ _ _ (⟨some 14,_,_,_,_,_⟩::_) _ _;refine ag 0 [(0,0),(1,3),(2,0)] rfl (by kernel_rfl) ?_)|(show ai _ _ _ _ _ _ ((_,6)::_) _;refine aq HM.out rfl rfl rfl (by kernel_rfl) (bL rfl) ?_;intro W gN af;replace HM:=ab af;clear af)|(show ai _ _ _ _ _ _ ((_,0)::_) _;refine aj rfl rfl rfl (by kernel_rfl) _ (.inr rfl) (v:=.int _ _) rfl ?_)|(show ai _ _ _ _ _ _ ((_,0)::_) _;refine aM rfl rfl rfl (by kernel_rfl) 30 _ rfl kI rfl ?_)|(show ai _ _ _ _ _ _ ((_,3)::_) _;refine an HM.out 30 _ _ rfl rfl ?_;(first|(refine⟨0,_,_,_,_,rfl,rfl,rfl,rfl,rfl,(aT aC),(bt aC aC),(bf _),?_⟩));intro W af;simp only[adj,adh,List.set_cons_zero,List.set_cons_succ] at af;replace HM:=ab af;clear af)|(show ai _ _ _ _ _ _ [] _;refine ay (fun K hK=>?_);simp only[aG];go_simp;refine hK _ ?_;clear hK K));exact adm (aA rfl _ _ _ _ _ (0,0) _ rfl (HM.out.at_ 0 rfl) _ rfl Tryz.underlying30 rfl (aT aC)) rfl ⟨rfl,HM.out.hb⟩
 have h2:¬s.length<16:=fun h=>h1 (.inl h)
 have h3:¬64<s.length:=fun h=>h1 (.inr h)
 obtain⟨h,hh⟩:=ae (bF sC s);have e:bQ s=if dE (h.take 32) then (0,ls h) else (1,aP):=by rw[bQ,if_neg h1,hh]
 rw[e];have hl:h.length=64:=by rw[hh,dK]
 have oS:=fun W=>nH (ls h) (nN hl) W
 rw[vc] at oS;have ML:=ab oS;have Hh:=ab hh;have Hl:=ab hl;have Hs:=ab hs;obtain⟨rk,Ua⟩:=ae (ls h);have m5:Hid (rk.Ok):=ab (by rw[Ua];exact nN hl);have H1:=ab (za hl);have H2:=ab (zb hl);rw[←Ua] at ML H2⊢;obtain⟨r1,kS⟩:∃r1:HKey,r1={ aP with data:=0::h.take 32 }:=⟨_,rfl⟩;rw[←kS] at H1 H2;have Hlo:Hid ((B8 (h.take 32)).length=32):=ab (by simp[hl]);have Hhi:Hid ((B8 (h.drop 32)).length=32):=ab (by simp[hl]);have NO:Hid ((aW r1).length=71):=ab (by rw[kS];exact bO ⟨rfl,rfl,by simp[hl],Nat.zero_lt_succ _⟩);have qI:Hid (Below 0 w w):=ab (adl _ _);clear oS hh hl hs e Ua kS h1 qI;obtain⟨b,hb⟩:=ae (dE (h.take 32));rw[←hb] at ML⊢;clear hb;go_enter Tryz.func4,Tryz.ntmps4;go_upto_region 3 with (first|(show wpList _ _ _ (⟨some 2,_,_,_,_,_⟩::_) _ _;refine ag 0 [(0,6),(1,0)] rfl (by kernel_rfl) ?_)|(show ai _ _ _ _ _ _ ((_,6)::_) _;refine aq HM.out rfl rfl rfl (by kernel_rfl) (bL rfl) ?_;intro W gN af;replace HM:=ab af;clear af)|(show ai _ _ _ _ _ _ ((_,0)::_) _;refine aj rfl rfl rfl (by kernel_rfl) _ (.inr rfl) (v:=.int _ _) rfl ?_)|(show ai _ _ _ _ _ _ [] _;refine ay (fun K hK=>?_);simp only[aG];go_simp;refine hK _ ?_;clear hK K));have kc:=fun (w:World) (C:Array Value) (n c:Nat)=>Lib.run_convert_bytes_const (P:=Tryz.prog) w 22 5 C n c Tryz.underlying22 (by kernel_rfl)
 go_wp2_with fail;refine(B9 _ A _ c sC s (by decide) (by omega) (by omega) _ (rZ (bs:=sC) (t:=5) (fr:=(12,13)) (adk W _)) (Hs.out.ext (av (HM.out.hb.alloc HM.out.hb.size _)))).mono ?_;rintro e W1 ⟨rfl,bH⟩;rw[←Hh.out];have af:=HM.out.below (((adl _ W).alloc (adi _) _).trans (bH.mono (by simp)));replace HM:=ab af;clear af bH kc;go_upto_region 6 with (first|(show wpList _ _ _ (⟨some 4,_,_,_,_,_⟩::_) _ _;refine ag 4 [(4,6),(5,3)] rfl (by kernel_rfl) ?_)|(show wpList _ _ _ (⟨some 5,_,_,_,_,_⟩::_) _ _;refine ag 0 [(0,6)] rfl (by kernel_rfl) ?_)|(show Code.wp _ (Code.region 5 _ _) _ _ _;refine aQ [(0,0),(1,0),(2,0)] [] [(3,8)] bx (by kernel_rfl) (by intro c a d v w h;cases d<;>exact h) trivial (aH ?_);replace HM:=ab HM.out.drew)|(show ai _ _ _ _ _ _ ((_,6)::_) _;refine aq HM.out rfl rfl rfl (by kernel_rfl) (bL rfl) ?_;intro W gN af;replace HM:=ab af;clear af)|(show ai _ _ _ _ _ _ ((_,6)::_) _;refine aq HM.out rfl rfl rfl (by kernel_rfl) (ey rfl) ?_;intro W gN af;replace HM:=ab af;clear af)|(show ai _ _ _ _ _ _ ((_,3)::_) _;refine an HM.out 45 _ _ rfl rfl ?_;(first|(refine⟨0,_,_,_,_,rfl,rfl,rfl,rfl,rfl,(fS Hl.out),(cS (by rw[Hl.out];rfl)),(bK _),?_⟩));intro W af;simp only[adj,adh,List.set_cons_zero,List.set_cons_succ] at af;replace HM:=ab af;clear af)|(show ai _ _ _ _ _ _ ((_,0)::_) _;refine bd rfl rfl rfl (by kernel_rfl) 30 _ 4 rfl rfl nL ?_)|(show ai _ _ _ _ _ _ ((_,0)::_) _;refine db rfl rfl rfl (by kernel_rfl) _ _ _ _ rfl (xL _) ?_)|(show ai _ _ _ _ _ _ ((_,0)::_) _;refine db rfl rfl rfl (by kernel_rfl) _ _ _ _ rfl (Ch _) ?_)|(show ai _ _ _ _ _ _ ((_,8)::_) _;refine j3 HM.out rfl rfl rfl (by kernel_rfl) lC _ _ rfl ⟨0,_,_,_,_,_,_,_,_,_,_,_,rfl,rfl,rfl,Hlo.out,(ZI (HM.out.at_ 1 rfl)),(by rw[Hlo.out];decide),(aR _),?_⟩;intro W af;rw[H1.out] at af;replace HM:=ab af;clear af)|(show ai _ _ _ _ _ _ [] _;refine bj ?_)|(show cu _ _ _ _ _ _ [] _ _;refine bm HM.out ?_;intro W af;simp only[adj,adh,List.set_cons_zero,List.set_cons_succ] at af;replace HM:=ab af;clear af)|(show ai _ _ _ _ _ _ [] _;refine ay (fun K hK=>?_);simp only[aG];go_simp;refine hK _ ?_;clear hK K));go_upto_region 7 with (first|(show Code.wp _ (Code.region 6 _ _) _ _ _;refine aQ [(0,0),(1,0),(2,0)] [] [(3,8)] bx (by kernel_rfl) (by intro c a d v w h;cases d<;>exact h) trivial (aH ?_);replace HM:=ab HM.out.drew)|(show ai _ _ _ _ _ _ ((_,0)::_) _;refine bd rfl rfl rfl (by kernel_rfl) 30 _ 3 rfl rfl Cb ?_)|(show ai _ _ _ _ _ _ ((_,0)::_) _;refine db rfl rfl rfl (by kernel_rfl) _ _ _ _ rfl (Cg _) ?_)|(show ai _ _ _ _ _ _ ((_,0)::_) _;refine db rfl rfl rfl (by kernel_rfl) _ _ _ _ rfl (Ck _) ?_)|(show ai _ _ _ _ _ _ ((_,8)::_) _;refine j3 HM.out rfl rfl rfl (by kernel_rfl) lC _ _ rfl ⟨0,_,_,_,_,_,_,_,_,_,_,_,rfl,rfl,rfl,Hhi.out,(ZH Hl.out (HM.out.at_ 1 rfl)),(by rw[Hhi.out,List.size_toArray,NO.out];decide),(aR _),?_⟩;intro W af;rw[H2.out] at af;replace HM:=ab af;clear af)|(show ai _ _ _ _ _ _ [] _;refine bj ?_)|(show cu _ _ _ _ _ _ [] _ _;refine bm HM.out ?_;intro W af;simp only[adj,adh,List.set_cons_zero,List.set_cons_succ] at af;replace HM:=ab af;clear af)|(show ai _ _ _ _ _ _ [] _;refine ay (fun K hK=>?_);simp only[aG];go_simp;refine hK _ ?_;clear hK K))
 cases b
 · go_wp2_with (first|(show wpList _ _ _ (⟨some 27,_,_,_,_,_⟩::_) _ _;refine ag 0 [(0,1),(1,4),(2,0)] rfl (by kernel_rfl) ?_)|(show wpList _ _ _ (⟨some 30,_,_,_,_,_⟩::_) _ _;refine ag 0 [(0,0),(1,3),(2,0)] rfl (by kernel_rfl) ?_)|(show ai _ _ _ _ _ _ ((_,1)::_) _;refine az rfl rfl rfl (by kernel_rfl) 30 _ rfl rfl Tryz.underlying30 rfl (t:=30) (by first|exact HM.out.at_ 0 rfl) (aT m5.out) ?_)|((first|(show ai _ _ _ _ _ _ ((_,4)::_) _;refine aw (f:=16) HM.out rfl rfl rfl rfl ?_));refine⟨_,_,Tryz.func16,by kernel_rfl,by kernel_rfl,by kernel_rfl,fun W hW=>ML.out _,?_⟩;try (intro W af;replace HM:=ab af;clear af))|(show ai _ _ _ _ _ _ ((_,0)::_) _;refine aj rfl rfl rfl (by kernel_rfl) _ (.inr rfl) (v:=.int _ _) rfl ?_)|(show ai _ _ _ _ _ _ ((_,0)::_) _;refine fD rfl rfl rfl (by kernel_rfl) _ _ rfl rfl ?_)|(show ai _ _ _ _ _ _ ((_,0)::_) _;refine aM rfl rfl rfl (by kernel_rfl) 30 _ rfl kI rfl ?_)|(show ai _ _ _ _ _ _ ((_,3)::_) _;refine an HM.out 30 _ _ rfl rfl ?_;(first|(refine⟨2,_,_,_,_,rfl,rfl,rfl,rfl,rfl,(aT aC),(bt aC aC),(bf _),?_⟩) );intro W af;simp only[adj,adh,List.set_cons_zero,List.set_cons_succ] at af;replace HM:=ab af;clear af)|(show ai _ _ _ _ _ _ [] _;refine ay (fun K hK=>?_);simp only[aG];go_simp;refine hK _ ?_;clear hK K))
   exact adm (aA rfl _ _ _ _ _ (0,0) _ rfl (HM.out.at_ 2 rfl) _ rfl Tryz.underlying30 rfl (aT aC)) rfl ⟨rfl,HM.out.hb⟩
 go_wp2_with (first|(show wpList _ _ _ (⟨some 27,_,_,_,_,_⟩::_) _ _;refine ag 0 [(0,1),(1,4),(2,0)] rfl (by kernel_rfl) ?_)|(show wpList _ _ _ (⟨some 31,_,_,_,_,_⟩::_) _ _;refine ag 0 [(0,1),(1,3),(2,0)] rfl (by kernel_rfl) ?_)|(show ai _ _ _ _ _ _ ((_,1)::_) _;refine az rfl rfl rfl (by kernel_rfl) 30 _ rfl rfl Tryz.underlying30 rfl (t:=30) (by first|exact HM.out.at_ 0 rfl) (aT m5.out) ?_)|((first|(show ai _ _ _ _ _ _ ((_,4)::_) _;refine aw (f:=16) HM.out rfl rfl rfl rfl ?_));refine⟨_,_,Tryz.func16,by kernel_rfl,by kernel_rfl,by kernel_rfl,fun W hW=>ML.out _,?_⟩;try (intro W af;replace HM:=ab af;clear af))|(show ai _ _ _ _ _ _ ((_,0)::_) _;refine aj rfl rfl rfl (by kernel_rfl) _ (.inr rfl) (v:=.int _ _) rfl ?_)|(show ai _ _ _ _ _ _ ((_,0)::_) _;refine fD rfl rfl rfl (by kernel_rfl) _ _ rfl rfl ?_)|(show ai _ _ _ _ _ _ ((_,3)::_) _;refine an HM.out 30 _ _ rfl rfl ?_;(first|(refine⟨2,_,_,_,_,rfl,rfl,rfl,rfl,rfl,(aT m5.out),(bt aC m5.out),(bf _),?_⟩) );intro W af;simp only[adj,adh,List.set_cons_zero,List.set_cons_succ] at af;replace HM:=ab af;clear af)|(show ai _ _ _ _ _ _ [] _;refine ay (fun K hK=>?_);simp only[aG];go_simp;refine hK _ ?_;clear hK K));exact adm (aA rfl _ _ _ _ _ (0,0) _ rfl (HM.out.at_ 2 rfl) _ rfl Tryz.underlying30 rfl (aT m5.out)) rfl ⟨rfl,HM.out.hb⟩
end Go.Proofs.YtnlkdheaohocnaaGreatDoor
