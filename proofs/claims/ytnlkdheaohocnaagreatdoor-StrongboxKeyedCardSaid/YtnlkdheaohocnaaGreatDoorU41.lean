/- Whoever walks down with the secret signs what whoever walks down without it verifies, and the text of either walks the same way (StrongboxKeyed). No condition. -/
import Derived.Test.YtnlkdheaohocnaaGreatDoorU1
import Derived.Test.YtnlkdheaohocnaaGreatDoorU40
import Derived.Test.YtnlkdheaohocnaaGreatDoorTie
import Derived.Test.YtnlkdheaohocnaaGreatDoorCards
import Derived.ProofKit
import Derived.OpenShut
import Derived.LaidMore
import Derived.Lay
import Derived.SevenTiedAt
import Derived.Stop.Joined
import Derived.ChangeSlices
set_option maxRecDepth 1000000
set_option maxHeartbeats 16000000
set_option linter.unusedVariables false
set_option linter.unusedSimpArgs false
namespace Go.Proofs.YtnlkdheaohocnaaGreatDoor
open Go Go.RowKit Go.Shelf
theorem JO (A1 A2:Option Addr) (c1 c2:Nat) (s:List UInt8) (p:List Nat) (m:List UInt8) (hm:m.length=32) (h1:s.length≤c1) (h2:p.length≤c2) (w:World) (iH:Sl w w.heap.size A1 (B8 s)) (jt:Sl w w.heap.size A2 (iF p)):
 Calls Tryz.prog 3 #[.slice A1 s.length c1,.slice A2 p.length c2,.agg (B8 m).toArray] w fun e W'=>e=.returned (.bool true)∧Below w.heap.size w W':=by
 by_cases hg:(bQ (s.take 70)).1=0
 · have hs:s.length≤70:=by
    unfold bQ at hg;split at hg
    · cases hg
    rename_i h;rw[adq] at h;omega
   rw[ady hs] at hg
   by_cases hp:p.length≤3
   · exact vx A1 A2 c1 c2 s.length p.length s p m hm rfl rfl h1 hp p.length h2 (.inl rfl) w iH jt hg
   refine vx A1 A2 c1 c2 s.length 3 s (p.take 3) m hm rfl (by rw[adq];omega) h1 (adi _) p.length h2 (.inr ⟨by omega,rfl⟩) w iH ?_ hg;have h:=Sl.take jt 3;have e:(iF p).take 3=iF (p.take 3):=by rw[iF,iF,List.map_take]
   rw[e] at h;exact h
 exact JB A1 A2 c1 c2 s p m h1 h2 w iH hg
end Go.Proofs.YtnlkdheaohocnaaGreatDoor
namespace Go.Proofs.YtnlkdheaohocnaaGreatDoor
open Go.ChangeShapes Go.WideShapes Go.ChangeAt Go.RowKit
open Go.ChangeMaps (open_string shut_string)
theorem Qe {W:World} {a:Addr} {zs:List Int} {len:Nat} (hl:len≤zs.length) (hc:∀i,i<zs.length→W.cell? (a.add i)=some (.int .u8 (zs.getD i 0))) (U9:∀n∈zs,(Lit.int .u8 n).wf=true):
 Sl W W.heap.size (some a) (B8 ((zs.take len).map fun n=>UInt8.ofNat n.toNat)):=fun hn=>by
 have h0:0<len:=by simp at hn;omega
 obtain⟨b,off,rfl,aS⟩:=ints_at hc (by omega);refine⟨b,off,rfl,World.block_lt_of_cell? W ⟨b,off+0,none⟩ (aS 0 (by omega)),fun j hj=>?_⟩;have zB:j<len:=by simp at hj;omega
 have hjz:j<zs.length:=by omega
 have hm:=U9 zs[j] (List.getElem_mem _);have hb:0≤zs[j]∧zs[j]≤255:=by simpa [Lit.wf,IntKind.min,IntKind.max,IntKind.signed,IntKind.bits] using hm
 rw[aS j hjz];have hg:zs.getD j 0=zs[j]:=by simp[hjz]
 rw[hg]
 have he:((UInt8.ofNat zs[j].toNat).toNat:Int)=zs[j]:=by
  rw[UInt8.toNat_ofNat',adu (by omega)];omega
 simp only[B8,List.getElem_map,List.getElem_take];exact congrArg (fun x=>some (Value.int .u8 x)) he.symm
theorem NF {W:World} {a:Addr} {zs:List Int} {len:Nat} (hl:len≤zs.length) (hc:∀i,i<zs.length→W.cell? (a.add i)=some (.int .u32 (zs.getD i 0))) (U9:∀n∈zs,(Lit.int .u32 n).wf=true):
 Sl W W.heap.size (some a) (iF ((zs.take len).map Int.toNat)):=fun hn=>by
 have h0:0<len:=by simp at hn;omega
 obtain⟨b,off,rfl,aS⟩:=ints_at hc (by omega);refine⟨b,off,rfl,World.block_lt_of_cell? W ⟨b,off+0,none⟩ (aS 0 (by omega)),fun j hj=>?_⟩;have zB:j<len:=by simp at hj;omega
 have hjz:j<zs.length:=by omega
 have hm:=U9 zs[j] (List.getElem_mem _);have hb:0≤zs[j]∧zs[j]≤4294967295:=by simpa [Lit.wf,IntKind.min,IntKind.max,IntKind.signed,IntKind.bits] using hm
 rw[aS j hjz];have hg:zs.getD j 0=zs[j]:=by simp[hjz]
 rw[hg];have he:((zs[j].toNat:Nat):Int)=zs[j]:=Int.toNat_of_nonneg hb.1;simp only[iF,List.getElem_map,List.getElem_take];exact congrArg (fun x=>some (Value.int .u32 x)) he.symm
theorem nV:∀{cs:List Value} {n:Nat},cs.length=n→(∀i,i<n→∃z,(cs.drop i).take 1=[.int .u8 z]∧(Lit.int .u8 z).wf=true)→∃m:List UInt8,m.length=n∧cs=B8 m
 |[],_,hl,_=>⟨[],hl,rfl⟩
 |c::cs,_,hl,h=>by
  subst hl;obtain⟨m,h1,h2⟩:=nV (cs:=cs) rfl (fun i hi=>h (i+1) (by rw[adz];omega));obtain⟨z,hz,hw⟩:=h 0 (by rw[adz];omega);have hc:c=.int .u8 z:=by simpa using hz
  have hb:0≤z∧z≤255:=by simpa [Lit.wf,IntKind.min,IntKind.max,IntKind.signed,IntKind.bits] using hw
  refine⟨UInt8.ofNat z.toNat::m,by simp[h1],?_⟩
  have he:((UInt8.ofNat z.toNat).toNat:Int)=z:=by
   rw[UInt8.toNat_ofNat',adu (by omega)];omega
  show c::cs=Value.int .u8 (((UInt8.ofNat z.toNat).toNat:Nat):Int)::B8 m;rw[he,hc,←h2]
theorem Qf:ownKnob Tryz.prog.godebug=none:=by kernel_rfl
theorem zz:laidOutB Tryz.prog=true:=by kernel_rfl
theorem Fh (os:Os) (started:os.Started) (H:Type) (enc:TypeId×Value→H):
 ReturnsInHanded {} Tryz.checked os 3 .any (fun w args=>(Rows.strongboxKeyedSpec.pre enc Tryz.prog Tryz.f3 Rows.strongboxKeyedRow.domain false w args∧laidMetH Tryz.prog Rows.strongboxKeyedRow.laid w)∧sizedMet enc Tryz.prog Tryz.f3 (OpenSpec.ofChange Rows.strongboxKeyedSpec) false w args)
  (Rows.strongboxKeyedSpec.post enc Tryz.prog Tryz.f3 false true false false):=by
 refine returnsInHanded_of_change_and (C:=Tryz.checked) (X:=fun w _=>laidMetH Tryz.prog Rows.strongboxKeyedRow.laid w) (fun _ _ _ hh h=>h.of_heap hh) Qf started (by kernel_rfl) Tryz.func3
  (ChangeSpec.witness_shaped (enc:=enc) (C:=Tryz.checked) (os:=os) (X:=fun w _=>laidMetH Tryz.prog Rows.strongboxKeyedRow.laid w) false (World.laidAll Tryz.prog os Rows.strongboxKeyedRow.laid) #[.slice none 0 0,.slice none 0 0,.agg (Array.replicate 32 (.int .u8 0))] 8 (World.laidAll_os _ _ _)
   (World.shaped_of_ZipB (by kernel_rfl) (by kernel_rfl)) (by kernel_rfl) (by kernel_rfl) (by kernel_rfl)
   (by rw[MakeChecks.laidMetH_plain _ _ _ (by kernel_rfl)];exact laidMet_laidAll _ (by kernel_rfl) (by kernel_rfl))) ?_
 intro W base args ds gs before aal hW _ _ _ _;have Qg:∀(j:Nat) t v,Tryz.f3.params[j]?=some t→args[j]?=some v→Value.okWide Tryz.prog W .any base t v:=aal;have RV:=hW;obtain⟨p,q,hA0,hV,rfl,_,_⟩:=hW;have hA:DataW.TrodAll enc Tryz.prog W 0 (fun _=>true) true Tryz.f3.params.toList args.toList ds p:=hA0;rw[Tryz.params3] at hA Qg;obtain⟨v0,v1,v2,d0,d1,d2,p0,p1,p2,rfl,rfl,rfl,h0,h1,h2⟩:=trodAll_three hA;obtain⟨rfl,rfl⟩:=trodVars_none hV;have k0:=h0;have k1:=h1;have k2:=h2;obtain⟨a0,Va,aam,rfl⟩:=okWide_slice Tryz.underlying22 (Qg 0 22 v0 rfl rfl);obtain⟨a1,Vb,aan,rfl⟩:=okWide_slice Tryz.underlying23 (Qg 1 23 v1 rfl rfl);have hv2:=Qg 2 25 v2 rfl rfl;simp only[Value.okWide,Tryz.underlying25] at hv2;obtain⟨cs2,rfl,ab9,_⟩:=hv2;obtain⟨f0,hf0⟩:=h0;obtain⟨f1,Xb⟩:=h1;obtain⟨f2,Tw⟩:=h2;have O8:Tryz.prog.cellsOf 5=1:=by kernel_rfl
 have hc6:Tryz.prog.cellsOf 27=1:=by kernel_rfl
 have jO:∃bs:List UInt8,bs.length=Va∧Va≤aam∧Sl W W.heap.size a0 (B8 bs):=by
  rcases open_ints Tryz.underlying22 Tryz.underlying5 O8 hf0 with ⟨eA,_⟩|⟨a,aca,acb,zs,eA,_,hle,acd,dc,_,aS,U9⟩
  · simp[Value.cells] at eA
    obtain⟨rfl,rfl,rfl⟩:=eA;exact⟨[],rfl,adi _,Sl.nil⟩
  simp[Value.cells] at eA;obtain⟨rfl,rfl,rfl⟩:=eA;simp only[if_true] at dc;exact⟨_,by rw[List.length_map,adq];omega,hle,Qe (len:=Va) (by omega) aS U9⟩
 have iH:∃ps:List Nat,ps.length=Vb∧Vb≤aan∧Sl W W.heap.size a1 (iF ps):=by
  rcases open_ints Tryz.underlying23 Tryz.underlying27 hc6 Xb with ⟨eA,_⟩|⟨a,aca,acb,zs,eA,_,hle,acd,dc,_,aS,U9⟩
  · simp[Value.cells] at eA
    obtain⟨rfl,rfl,rfl⟩:=eA;exact⟨[],rfl,adi _,Sl.nil⟩
  simp[Value.cells] at eA;obtain⟨rfl,rfl,rfl⟩:=eA;simp only[if_true] at dc;exact⟨_,by rw[List.length_map,adq];omega,hle,NF (len:=Vb) (by omega) aS U9⟩
 have jt:∃m:List UInt8,m.length=32∧cs2=(B8 m).toArray:=by
  obtain⟨xs,mm,_,_,hlen,Vp,hel⟩:=DataW.trod_array Tryz.underlying25 Tw;have hl:cs2.toList.length=32:=ab9.trans (by kernel_rfl)
  obtain⟨m,h1,h2⟩:=nV hl (fun i hi=>by
   have h3:=hel i hi;rw[O8,Nat.mul_one,adp (by omega)] at h3;obtain⟨z,hz,_,hw⟩:=DataW.trod_int Tryz.underlying5 h3;exact⟨z,hz,hw⟩)
  exact⟨m,h1,by rw[←h2]⟩
 obtain⟨bs,qP,ade,ace⟩:=jO;obtain⟨ps,pe,adf,acf⟩:=iH;obtain⟨m,hm,rfl⟩:=jt;have aao:=JO a0 a1 aam aan bs ps m hm (by omega) (by omega) W ace acf;rw[qP,pe] at aao;refine aao.mono fun e W' ⟨he,hb⟩=>?_
 subst he;have acg:∀x∈p0,x.block<W.heap.size:=fun x hx=>RV.lt x (by simp[hx])
 have ach:∀x∈p1,x.block<W.heap.size:=fun x hx=>RV.lt x (by simp[hx])
 have Du:∀x∈p2,x.block<W.heap.size:=fun x hx=>RV.lt x (by simp[hx])
 exact⟨_,rfl,_,_,_,[],_,[],RV,trodAll_mk1 (shut_bool Tryz.underlying4 _),trodAll_mk3 (Below.trod zz (by kernel_rfl) (of_decide_eq_true (by kernel_rfl)) k0 hb acg) (Below.trod zz (by kernel_rfl) (of_decide_eq_true (by kernel_rfl)) k1 hb ach) (Below.trod zz (by kernel_rfl) (of_decide_eq_true (by kernel_rfl)) k2 hb Du),rfl,hb.frame _,fun h=>by cases h⟩
theorem JP:Rows.StrongboxKeyedSaid:=
 OpenClaim.holds_of_wide 3 Tryz.f3 rfl rfl rfl rfl rfl rfl rfl ⟨rfl,rfl,rfl,rfl,rfl⟩ rfl rfl rfl rfl rfl (by kernel_rfl) Tryz.func3 (by kernel_rfl)
  (of_decide_eq_true (by kernel_rfl)) (by unfold Func.isWrapper;first|(rw[if_pos (by decide+kernel)];kernel_rfl)|(rw[if_neg (by decide+kernel)];exact⟨rfl,rfl⟩))
  (fun os started H enc _=>Fh os started H enc)
theorem strongboxKeyed_card:Rows.StrongboxKeyedCardSaid:=
 Claim7.holds_tied_plain_at .later [] [.data,.pinned] true (true,"e8d31f02c035d7d2b250e01a1994955e4b46f5f8e17e660b8ef2b2fadd64258a") false JP (fun _ h=>by cases h) (by kernel_rfl) (fun _ h=>by cases h) strongboxKeyed_row_tie rfl ⟨rfl,rfl⟩ (by kernel_rfl) rfl
  (fun f fn hf hfn=>by
   obtain rfl:f=3:=Option.some.inj ((show Tryz.prog.funcNamed "strongbox/strongboxtop.StrongboxKeyed"=some 3 by kernel_rfl).symm.trans hf) |>.symm;obtain rfl:fn=Tryz.f3:=(Option.some.inj (Tryz.func3.symm.trans hfn)).symm
   exact⟨by kernel_rfl,fun j t ht=>by
    rw[Tryz.params3] at ht;have hm:t∈[22,23,25]:=by simpa using Array.mem_of_getElem? ht
    have dc:([22,23,25].all fun u=>!Tryz.prog.wantsStandIn u)=true:=by kernel_rfl
    exact(show Tryz.prog.wantsStandIn t=false by simpa using List.all_eq_true.1 dc t hm)⟩)
  (by kernel_rfl)
#print axioms strongboxKeyed_card
end Go.Proofs.YtnlkdheaohocnaaGreatDoor
