/- Lemmas of the proof, with their conditions. -/
import Derived.Test.YtkonbpfbjiepfaaGreatP46
namespace Go.Proofs.YtkonbpfbjiepfaaGreat
set_option linter.unusedSimpArgs false
set_option linter.unusedVariables false
set_option maxHeartbeats 4000000
set_option maxRecDepth 20000
section
open Go.RowKit Go.Shelf
theorem elemRowsM:ElemN Tryz.prog 76 39 (.slice none 0 0) 1 24:=ElemN.of Tryz.underlying76 (by kernel_rfl) rfl (by omega)
theorem Ja {w:World} {g:Nat} {t:TypeId} {x0 x1 x2 x3 x4:Value} (h:Blk w g t #[x0,x1,x2,x3,x4]):w.cell? ⟨g,0,none⟩=some x0∧w.cell? ⟨g,1,none⟩=some x1∧w.cell? ⟨g,2,none⟩=some x2∧w.cell? ⟨g,3,none⟩=some x3∧w.cell? ⟨g,4,none⟩=some x4:=
 ⟨by simpa using h.cell 0,by simpa using h.cell 1,by simpa using h.cell 2,by simpa using h.cell 3,by simpa using h.cell 4⟩
theorem VAM (n:Nat) (h0:1≤n) (hn:n≤64) (w:World) :
 Calls Tryz.prog 87 #[.int .i64 (n:Nat)] w fun e w'=>∃ i F,e=.returned (.pointer (some ⟨i,0,none⟩))∧JAs w' w.heap.size i F (PIdl.new n)∧Keep [] w w':=by
 have hW:=fun W=>VE (n:Nat) 1 64 true (by simp;omega) W
 go_enter Tryz.func87,Tryz.ntmps87
 go_wp2_with (first
  | (go_at_call 158;refine(hW _).mono ?_;clear hW;rintro e w' ⟨rfl,rfl⟩)
  | (at_make;refine elemRowsM.wp_make rfl _ _ rfl .i64 .i64 n rfl rfl (by omega) (by omega) ?_;intro w1 g1 hg1 hs1 hb1 hk1;subst hg1))
 have hov:w1.ownsRow w.heap.size 39 1 (.slice (some ⟨w.heap.size,0,none⟩) n n) n (List.replicate n (.slice none 0 0)):=YN (e:=39) (s:=1) (z:=.slice none 0 0) hb1 (by omega) (by omega) (by omega) (by simp) rfl;have hB:=Blk.new w1 156 #[.slice none 0 0,.slice (some ⟨w.heap.size,0,none⟩) n n,.int .i64 0,.int .i64 0,.int .i64 0];have hkA:Keep [] w (w1.alloc (.cells #[.slice none 0 0,.slice (some ⟨w.heap.size,0,none⟩) n n,.int .i64 0,.int .i64 0,.int .i64 0] 156)):=hk1.alloc _;have hov2:=XD hov (.cells #[.slice none 0 0,.slice (some ⟨w.heap.size,0,none⟩) n n,.int .i64 0,.int .i64 0,.int .i64 0] 156);generalize hwA:w1.alloc (.cells #[.slice none 0 0,.slice (some ⟨w.heap.size,0,none⟩) n n,.int .i64 0,.int .i64 0,.int .i64 0] 156)=wA at *;rw[hs1] at hB;clear hov hk1 hs1 hb1;obtain⟨d,hd⟩:∃ d,d=w.heap.size+1:=⟨_,rfl⟩;rw[← hd] at hB
 go_wp2_with fail
 try rw[hwA]
 try rw[← hd]
 clear hwA;have HD:=JB hd;clear hd
 go_loopw [4] (fun i wr=>∃ (k:Nat) (S:Value) (sv:List Value),k≤n∧i=.int .i64 (k:Nat)∧Blk wr d 156 #[S,.slice (some ⟨w.heap.size,0,none⟩) n n,.int .i64 0,.int .i64 0,.int .i64 0] ∧
  wr.ownsRow w.heap.size 39 1 S k sv∧wr.ownsRow w.heap.size 39 1 (.slice (some ⟨w.heap.size,0,none⟩) n n) n (List.replicate n (.slice none 0 0))∧w.heap.size∉S.ownBlock.toList∧Hid (∀ v∈sv,wr.ownsRow w.heap.size 5 1 v 64 (bys zeros64))∧Keep [] w wr) (fun i _=>n-(intOf i).toNat)
 case atStart=>exact⟨0,.slice none 0 0,[],Nat.zero_le _,rfl,hB,World.ownsRow_nil _ _ _ _,hov2,by simp[Value.ownBlock],(by show ∀ v∈([]:List Value),_;intro v hv;cases hv),hkA⟩
 case round=>
  clear hB hov2 hkA;obtain⟨k,S,sv,hk,rfl,hbr,hsr,hur,hnS,hzr,hkr⟩:=hrel;obtain⟨c0,c1,c2,c3,c4⟩:=Ja hbr
  by_cases hlt:k<n
  · have hltI:((k:Nat):Int)<(n:Nat):=by omega
    go_wp2_with fail
    refine ZT (fun w'=>w'.cell? ⟨d,0,none⟩=some S) 8 [[0,1,2,3,4],[5],[6],[7]] c0 ?_;simp only[PI]
    iterate 5 (refine ZH ?_;simp only[Act.put,PU])
    refine XB (by rfl) (fun K hK=>?_);refine elem8M.wp1_make _ _ rfl .i64 .i64 64 rfl rfl (by omega) (by omega) ?_;intro w2 g2 hg2 hs2 hb2 hk2;obtain rfl:g2=wr.heap.size:=hg2;clear hs2;have hkB:Keep [] wr w2:=(Keep.refl _ _).drew.trans0 hk2;have hz2:w2.ownsRow w.heap.size 5 1 (.slice (some ⟨wr.heap.size,0,none⟩) 64 64) 64 (bys zeros64):=YN (e:=5) (s:=1) (z:=.int .u8 0) hb2 (by omega) hkr.size (by omega) (by simp[bys,by8,zeros64]) rfl;refine hK _ _ ((Ja (hbr.keep0 hkB)).1) ?_;clear hK K
    try simp only[Act.put,PU]
    refine XB (by rfl) (fun K hK=>?_)
    go_wp2_with fail
    have hrd:=JS w2 (Value.slice (some ⟨wr.heap.size,0,none⟩) 64 64) 39;have hkC:Keep [] wr (w2.alloc (.cells #[Value.slice (some ⟨wr.heap.size,0,none⟩) 64 64] 39)):=hkB.alloc _;have hz3:=XD hz2 (.cells #[Value.slice (some ⟨wr.heap.size,0,none⟩) 64 64] 39);generalize w2.alloc (.cells #[Value.slice (some ⟨wr.heap.size,0,none⟩) 64 64] 39)=w3 at *;generalize w2.heap.size=n4 at *;refine hK _ _ ((Ja (hbr.keep0 hkC)).1) ?_;clear hK K
    try simp only[Act.put,PU]
    refine XB (by rfl) (fun K hK=>?_);refine elemRows.wp1_app (.tmp 21) (.tmp 23) (by rfl) w.heap.size S k sv (by rfl) (KA hsr hkC) (some ⟨n4,0,none⟩) 1 1 [Value.slice (some ⟨wr.heap.size,0,none⟩) 64 64] (by rfl) hrd (by simp[Value.oneCell']) (by omega) (by omega) (Nat.le_trans hkr.size hkC.size) ?_;intro S' w4 hS' hk4 hSb _;have hdS:d∉S.ownBlock.toList:=fun hm=>own_blk_ne hsr hbr (by decide) (by simpa using hm);have hblk4:=(hbr.keep0 hkC).keep hk4 hdS;refine hK _ _ ((Ja hblk4).1) ?_;clear hK K
    try simp only[Act.put,PU]
    refine YB ?_;have f0:=hblk4.frozen 0;have j0:=(Ja hblk4).1;have hb5:=hblk4.set 0 S';have hk5:Keep [d] w4 (w4.setCell ⟨d,0,none⟩ S'):=(Keep.refl _ _).setCell (p:=⟨d,0,none⟩) (.inl (by simp)) _;have hul:w.heap.size<wr.heap.size:=(own_mem hur (g:=w.heap.size) (by simp[Value.ownBlock])).2
    have hdS':d∉S'.ownBlock.toList:=fun hm=>by
     rcases hSb with e | e
     · rw[e] at hm;exact hdS hm
     · rw[e] at hm;simp at hm;have:=hbr.lt;have:=hkC.size;omega
    have hnS':w.heap.size∉S'.ownBlock.toList:=fun hm=>by
     rcases hSb with e | e
     · rw[e] at hm;exact hnS hm
     · rw[e] at hm;simp at hm;have:=hkC.size;omega
    have hst:∀ {e:TypeId} {s n:Nat} {v:Value} {xs:List Value},w3.ownsRow w.heap.size e s v n xs→e≠39→e≠156→(w4.setCell ⟨d,0,none⟩ S').ownsRow w.heap.size e s v n xs:=fun hv he he2=>
     QB (QB hv hk4 (fun x hx hm=>own_ne hv (KA hsr hkC) he hx (by simpa using hm))) hk5 (fun x hx hm=>by simp at hm;subst hm;exact own_blk_ne hv (hbr.keep0 hkC) he2 hx)
    have hu5:(w4.setCell ⟨d,0,none⟩ S').ownsRow w.heap.size 39 1 (.slice (some ⟨w.heap.size,0,none⟩) n n) n (List.replicate n (.slice none 0 0)):=
     QB (QB (KA hur hkC) hk4 (fun x hx hm=>by simp[Value.ownBlock] at hx;subst hx;exact hnS hm)) hk5 (fun x hx hm=>by simp at hm;subst hm;exact own_blk_ne (KA hur hkC) (hbr.keep0 hkC) (by decide) hx)
    have hz5:=hst hz3 (by decide) (by decide);have hzz:Hid (∀ v∈sv,(w4.setCell ⟨d,0,none⟩ S').ownsRow w.heap.size 5 1 v 64 (bys zeros64)):=fun v hv=>hst (KA (XA hzr v hv) hkC) (by decide) (by decide);have hS5:=QB hS' hk5 (fun x hx hm=>by simp at hm;subst hm;exact hdS' (by simpa using hx));have hkZ:Keep [] w (w4.setCell ⟨d,0,none⟩ S'):=((hkr.trans0 hkC).trans hk4 (fun x hx=>.inr (own_mem hsr hx).1)).trans hk5 (fun x hx=>.inr (by simp at hx;have:=XA HD;omega));obtain⟨SA,sc,rfl,_⟩:=ZB hS'
    go_wp2_with fail
    go_roundw
    case rel=>exact⟨k+1,_,_,by omega,by go_num,by simpa using hb5,hS5,hu5,hnS',fun v hv=>by
     simp only[List.mem_append,List.mem_singleton] at hv;rcases hv with hv | rfl
     · exact XA hzz v hv
     · exact hz5,hkZ⟩
    case measure=>simp[intOf];omega
  · obtain rfl:n=k:=by omega
    go_wp2_with fail
    go_ret;have hsl:sv.length=n:=by simpa using hsr.1
    refine⟨d,_,rfl,⟨S,_,sv.map (fun v=>(v,zeros64)),List.replicate n (.slice none 0 0,none),hbr,?_,?_,?_,?_,?_,?_,?_,rfl,?_⟩,hkr⟩
    · simpa [hsl,Function.comp_def] using hsr
    · simpa using hur
    · intro q hq
      obtain⟨v,hv,rfl⟩:=List.mem_map.1 hq;exact .inr ⟨zeros64,rfl,by simp[zeros64],XA hzr v hv⟩
    · intro q hq
      obtain rfl:=List.eq_of_mem_replicate hq;exact .inl ⟨rfl,rfl⟩
    · simp[PIdl.new,Function.comp_def,hsl,List.map_const']
    · simp[PIdl.new]
    · intro e
      rw[e] at hnS;exact hnS (by simp[Value.ownBlock])
    · have:=XA HD;omega
end
section
open Go.RowKit Go.Shelf
def YBR (w w':World) (B len marks:Nat) (ops:Nat→POp) (V:Value):Prop:=∃ (UA:Option Addr) (n c:Nat) (ls:List (Value×List UInt8)) (j:Nat),V=.slice UA n c∧Rws w' UA n ls∧ls.map (·.2)=(idl B ops j).base∧n≤64∧j≤len∧(j=len∨marks≤(idl B ops j).ep)∧Keep [] w w'
theorem YBK (w:World) (B len marks:Nat) (hB:1≤B∧B≤64) (hlen:len≤60) (hm:marks≤1000000) (ops:Nat→POp) (hops:JBI B ops len) (his:∀ j<len,∃ k b c e xs,OpIs B ops j k b c e xs) (A:Option Addr) (cap oB:Nat) (F:List Nat) (oz:List (Value×POp)) (hO:OHold w oB F (.slice A len cap) oz) (hoz:oz.map (·.2)=(List.range len).map ops) :
 Calls Tryz.prog 31 #[.int .i64 (B:Nat),.int .i64 (marks:Nat),.slice A len cap] w fun e w'=>∃ V,e=.returned V∧YBR w w' B len marks ops V:=by
 have hN:=VAM B hB.1 hB.2 w;have hol:oz.length=len:=by have:=congrArg List.length hoz;simpa using this
 have HOL:=JB hol;have HOZ:=JB hoz;clear hol hoz
 go_enter Tryz.func31,Tryz.ntmps31
 go_wp2_with (
  (refine hN.mono ?_)
  clear hN;rintro e w1 ⟨i,F1,rfl,hI,hk1⟩)
 have hI0:JAs w1 w.heap.size i F1 (idl B ops 0):=hI;clear hI
 go_loopw [8] (fun iv wr=>∃ (q:Nat) (FI:List Nat),q≤len∧iv=.int .i64 (q:Nat)∧JAs wr w.heap.size i FI (idl B ops q)∧Keep [] w wr) (fun iv _=>len-(intOf iv).toNat)
 case atStart=>exact⟨0,F1,Nat.zero_le _,rfl,hI0,hk1⟩
 case round=>
  clear hI0 hk1;obtain⟨q,FI,hq,rfl,hI,hkr⟩:=hrel;obtain⟨bv,ov,bs,os,hIs⟩:=id hI;obtain⟨c0,c1,c2,c3,c4⟩:=hIs.cells;obtain⟨l1,l2⟩:=JAO B ops q;have hsq:=ZBL B ops q
  have hepq:(idl B ops q).ep≤q:=by
   clear hI hIs c0 c1 c2 c3 c4 l1 l2 hsq hkr hq
   induction q with
   | zero=>simp[idl,PIdl.new]
   | succ q ih=>
     simp only[idl,PIdl.step]
     split
     · simp only;omega
     · split
       · simp only;omega
       · simp only;omega
  by_cases hlt:q<len
  · by_cases hem:(idl B ops q).ep<marks
    · have hemI:(((idl B ops q).ep:Nat):Int)<(marks:Nat):=by omega
      have hqz:q<oz.length:=by rw[XA HOL];exact hlt
      obtain⟨k,b,c,e,xs,hOp⟩:=his q hlt
      have hop:oz[q].2=⟨k,b,c,e,xs⟩:=by
       have h1:(oz.map (·.2))[q]? = some oz[q].2:=by rw[List.getElem?_map,List.getElem?_eq_getElem hqz];rfl
       rw[XA HOZ,List.getElem?_map,List.getElem?_range hlt] at h1;rw[← hOp.op];exact(Option.some.inj h1).symm
      have hOr:=hO.keep0 hkr;have hda:=hOr.data oz[q] (List.getElem_mem hqz);have hrdO:=hOr.rd (A:=A) (c:=cap) (by rw[XA HOL]);rw[XA HOL] at hrdO;obtain⟨ob,oo,rfl,hobl,o0,o1,o2,o3,o4⟩:=hrdO.at_ hlt hqz;rw[hop] at hda o0 o1 o2 o3;obtain⟨DA,dc,hv,hdc,_⟩:=ZB hda;rw[hv] at o4 hda;have hf:=hOp.dev hops hlt;have hD:=fun n (hn:n=xs.length)=>KAY wr w.heap.size i FI _ hI (by omega) (by omega) (by omega) (by omega) k b c e n dc DA xs (by rw[hn];exact Rd.of_own hda) (by rw[hn];exact hdc) (by rw[hn];exact hf);simp only at o4;obtain⟨n1,hn1⟩:∃ n,n=xs.length:=⟨_,rfl⟩;have hD1:=hD n1 hn1;rw[← hn1] at o4;rw[← hOp.op] at hD1;have hstep:(idl B ops q).step (ops q)=idl B ops (q+1):=rfl;rw[hstep] at hD1;have hdl:=hI;clear hD hn1 hop hda hrdO hOr hv hf hstep l1 l2 hsq hepq hdc
      go_wp2_with (
       (refine hD1.mono ?_)
       clear hD1;rintro e w2 ⟨rfl,FI2,hI2,hk2,hg2⟩)
      go_roundw
      case rel=>exact⟨q+1,FI2,by omega,by go_num,hI2,hkr.trans hk2 (fun y hy=>.inr (by obtain⟨_,_,_,_,hd⟩:=hdl;exact(hd.lt y hy).1))⟩
      case measure=>simp[intOf];omega
    · have hemI:¬ (((idl B ops q).ep:Nat):Int)<(marks:Nat):=by omega
      obtain⟨gb,cb,rfl,_,_⟩:=JE hIs.brow (by rw[hIs.blen];omega)
      go_wp2_with fail
      go_ret
      exact⟨_,rfl,_,_,_,bs,q,rfl,⟨by simpa using Rd.of_ownN hIs.brow,fun p hp=>by
       rcases hIs.bdat p hp with⟨h,_⟩ | ⟨ys,h1,h2,h3⟩
       · cases h
       · cases h1
         have:=Bts.of_own h3 (by omega);exact this⟩,hIs.bsnd,by rw[hIs.blen];omega,hq,.inr (by omega),hkr⟩
  · obtain rfl:q=len:=by omega
    obtain⟨gb,cb,rfl,_,_⟩:=JE hIs.brow (by rw[hIs.blen];omega)
    go_wp2_with fail
    go_ret
    exact⟨_,rfl,_,_,_,bs,q,rfl,⟨by simpa using Rd.of_ownN hIs.brow,fun p hp=>by
     rcases hIs.bdat p hp with⟨h,_⟩ | ⟨ys,h1,h2,h3⟩
     · cases h
     · cases h1
       have:=Bts.of_own h3 (by omega);exact this⟩,hIs.bsnd,by rw[hIs.blen];omega,hq,.inl rfl,hkr⟩
end
section
open Go.RowKit Go.Shelf
theorem QAy {B:Nat} (hB:1≤B∧B≤64) (zs:List (Int×Int×Int)) {j:Nat} (hj:j≤1000000):∃ k b c e xs,OpIs B (JAJ B zs) j k b c e xs:=by
 have he:=Zk B zs j;obtain⟨h1,k,b,c,e,xs,h2,h3,h4⟩:=Kj B hB (zs.getD j (0,0,0)) (QM B zs j).2 (by omega);exact⟨k,b,c,e,xs,h2,h3,h4,by rw[← h2];exact h1⟩
theorem JAw (B:Nat) (zs:List (Int×Int×Int)) (n:Nat):(QM B zs n).1=(List.range n).map (JAJ B zs):=by
 induction n with
 | zero=>rfl
 | succ n ih=>
   rw[List.range_succ,List.map_append,← ih];rfl
theorem KAf (B:Nat) (ops:Nat→POp) (j d:Nat):(idl B ops j).ep≤(idl B ops (j+d)).ep∧((idl B ops j).ep=(idl B ops (j+d)).ep→(idl B ops j).base=(idl B ops (j+d)).base):=by
 induction d with
 | zero=>exact⟨Nat.le_refl _,fun _=>rfl⟩
 | succ d ih=>
   obtain⟨h1,h2⟩:=ih;have hstep:(idl B ops (j+(d+1)))=(idl B ops (j+d)).step (ops (j+d)):=rfl;rw[hstep];simp only[PIdl.step]
   split
   · exact⟨h1,h2⟩
   · split
     · exact⟨h1,h2⟩
     · exact⟨by simp only;omega,fun h=>by simp only at h;omega⟩
theorem KAb {B j len:Nat} {ops:Nat→POp} (hj:j≤len) (h:j=len∨(idl B ops len).ep≤(idl B ops j).ep):(idl B ops j).base=(idl B ops len).base:=by
 obtain⟨d,rfl⟩:∃ d,len=j+d:=⟨len-j,by omega⟩;obtain⟨h1,h2⟩:=KAf B ops j d;rcases h with h | h
 · rw[← h]
 · exact h2 (by omega)
theorem DoesL.stm {B:Nat} (hB:1≤B∧B≤64) {S:PS} (zs:List (Int×Int×Int)) (h0:Stm B (JAJ B zs) 0 S):∀ (n:Nat) (S':PS),n≤45→DoesL B S (QM B zs n).1 S'→Stm B (JAJ B zs) n S':=by
 intro n
 induction n with
 | zero=>
   intro S' _ h;have hs:(QM B zs 0).1=[]:=rfl;rw[hs] at h;generalize hl:([]:List POp)=l at h
   cases h with
   | nil=>exact h0
   | snoc h k=>simp at hl
 | succ n ih=>
   intro S' hn h;have hs:(QM B zs (n+1)).1=(QM B zs n).1++[JAJ B zs n]:=rfl;rw[hs] at h;generalize hl:(QM B zs n).1++[JAJ B zs n]=l at h
   cases h with
   | nil=>simp at hl
   | snoc h k=>
     obtain⟨rfl,h2⟩:=List.append_inj' hl rfl;simp only[List.cons.injEq,and_true] at h2;subst h2;exact(k.stm ((ZBD hB zs (len:=n+1) (by omega)) n (by omega)).1 (ih _ (by omega) h) (by omega)).1
theorem QBC (w:World) (B len oc:Nat) (F:List Nat) (b0:Nat) (OA:Option Addr) (oz:List (Value×POp)) (zs:List (Int×Int×Int)) (hlen:len≤60) (hB1:1≤B) (hB2:B≤64) (hoz:oz.map (·.2)=(QM B zs len).1) (hO:OHold w b0 F (.slice OA len oc) oz) :
 Calls Tryz.prog 29 #[.slice OA len oc] w fun e w'=>e=.returned (.int .i64 ((QM B zs len).2:Nat))∧w=w':=by
 have hozl:oz.length=len:=by have:=congrArg List.length hoz;rwa [List.length_map,YAA] at this
 have HOZ:=JB hoz;have HOL:=JB hozl;clear hoz hozl
 go_enter Tryz.func29,Tryz.ntmps29
 go_wp2_with fail
 go_loopw [3,4] (fun n i wr=>∃ (k:Nat),k≤len∧i=.int .i64 (k:Nat)∧n=.int .i64 ((QM B zs k).2:Nat)∧w=wr) (fun _ i _=>len-(intOf i).toNat)
 case atStart=>exact⟨0,by omega,rfl,rfl,rfl⟩
 case round=>
  obtain⟨k,hk,rfl,rfl,rfl⟩:=hrel
  by_cases hlt:k<len
  · have hkz:k<oz.length:=by rw[XA HOL];exact hlt
    obtain⟨pv,hpv⟩:∃ p,p=oz[k]:=⟨_,rfl⟩
    have hop:pv.2=(ZN B (zs.getD k (0,0,0)) (QM B zs k).2).1:=by
     have h1:(oz.map (·.2))[k]? = some pv.2:=by rw[List.getElem?_map,List.getElem?_eq_getElem hkz,hpv];rfl
     rw[XA HOZ,YAU B zs len k hlt] at h1;exact(Option.some.inj h1).symm
    have hepk:=Zk B zs k;have hep:=Vf B (zs.getD k (0,0,0)) (QM B zs k).2;have hnx:=Xo B zs k;rw[← hop] at hep;rw[← hnx] at hep;have hrdO:=hO.rd (A:=OA) (c:=oc) (by rw[XA HOL]);rw[XA HOL] at hrdO;obtain⟨ob,oo,hOA,hobl,o0,o1,o2,o3,o4⟩:=hrdO.at_ hlt hkz;rw[← hpv] at o0;obtain⟨DV,kk,bb,cc,ee,xs⟩:=pv;simp only at o0 hep;have HOA:=JB hOA;have HEP:=JB hep;have HOP:=JB hop;have HPV:=JB hpv;have HNX:=JB hnx;clear hop hpv hnx hrdO o1 o2 o3 o4 hep;subst hOA;obtain⟨q,hq⟩:∃ q,q=(QM B zs k).2:=⟨_,rfl⟩;rw[← hq] at hepk ⊢;have HQ:=JB hq;clear hq
    by_cases h3:kk=3
    · go_wp2_with fail
      go_roundw
      case rel=>
       refine⟨k+1,by omega,by go_num,?_,trivial⟩;rcases XA HEP with⟨_,_,e3⟩ | ⟨e1,_⟩
       · rw[e3,← XA HQ];go_num
       · exact absurd h3 e1
      case measure=>simp[intOf];omega
    · go_wp2_with fail
      go_roundw
      case rel=>
       refine⟨k+1,by omega,by go_num,?_,trivial⟩;rcases XA HEP with⟨e1,_,_⟩ | ⟨_,e3⟩
       · exact absurd e1 h3
       · rw[e3,← XA HQ]
      case measure=>simp[intOf];omega
  · obtain rfl:k=len:=by omega
    go_wp2_with fail
    go_ret;exact⟨rfl,rfl⟩
theorem KBB {w0 w:World} {B f r s d x n c:Nat} {Fs:List Nat} {S:PS} (h:FrP w0 w B f r s d x Fs S) (k j:Nat) (hg:Good B S k j) (UA:Option Addr) (ls:List (Value×List UInt8)) (hR:Rws w UA n ls) (hb:ls.map (·.2)=KG B S) (hn:n≤64) :
 Calls Tryz.prog 30 #[.pointer (some ⟨f,0,none⟩),.slice UA n c] w fun e w'=>e=.returned (.bool true)∧Keep [] w w':=by
 have hll:=hR.len;have hnB:n=B:=by have:=congrArg List.length hb;rw[List.length_map,hll] at this;rw[this];unfold KG;rw[List.length_map,hg.bl]
 have HB:=JB hb;have HLL:=JB hll;have HNB:=JB hnB;clear hb hll hnB
 go_enter Tryz.func30,Tryz.ntmps30
 go_wp2_with fail
 go_loopw [5] (fun i wr=>∃ (q:Nat),q≤n∧i=.int .i64 (q:Nat)∧Keep [] w wr) (fun i _=>n-(intOf i).toNat)
 case atStart=>exact⟨0,by omega,rfl,Keep.refl _ _⟩
 case round=>
  obtain⟨q,hq,rfl,hk⟩:=hrel
  by_cases hlt:q<n
  · have hRd:=(h.keep0 hk).read k j hg q (by rw[← XA HNB];exact hlt)
    have hRw:=hR.keep hk
    go_wp2_with (first
     | (go_at_call 33
        refine hRd.mono ?_;clear hRd;rintro e w1 ⟨VA,vc,rfl,hv,hk1⟩;obtain⟨b,o,hUA,hbl,hcc,hbt⟩:=(hRw.keep hk1).at_ hlt (by rw[XA HLL];exact hlt);have hxs:(KG B S).getD q []=(ls[q]'(by rw[XA HLL];exact hlt)).2:=by rw[← XA HB,List.getD_eq_getElem?_getD,List.getElem?_map,List.getElem?_eq_getElem (by rw[XA HLL];exact hlt)];rfl
        rw[hxs] at hv;have HX:=JB hxs;have HUA:=JB hUA;clear hxs;subst hUA;generalize ls[q]'_=lq at *;obtain⟨lv,lx⟩:=lq;simp only at hv hcc hbt;obtain⟨PA,pn,pc,rfl,hpc,hpn,hpr⟩:=hbt
        have hBy:Calls Tryz.prog 78 #[.slice VA 64 vc,.slice PA pn pc] w1 fun e w'=>e=.returned (.bool true)∧Keep [] w1 w':=(VAG VA PA 64 pn vc pc lx lx w1 (Rd.of_own hv) hpr (by omega) (by omega)).mono (by rintro e w' ⟨rfl,k,rfl⟩;exact⟨by simp,Keep.ofDrewN k⟩))
     | (go_at_call 78
        refine hBy.mono ?_;clear hBy;rintro e w2 ⟨rfl,hk2⟩))
    go_roundw
    case rel=>exact⟨q+1,by omega,by go_num,(hk.trans0 hk1).trans0 hk2⟩
    case measure=>simp[intOf];omega
  · obtain rfl:q=n:=by omega
    go_wp2_with fail
    go_ret;exact⟨rfl,hk⟩
end
section
open Go.RowKit Go.Shelf
theorem XAN (n:Nat):(Builtin.zeroCells #[.int .i64 0,.int .i64 0,.int .i64 0,.int .i64 0,.slice none 0 0,.bool false] n).toList=(JD n).flatMap slc:=by
 apply List.ext_getElem?;intro i
 by_cases hi:i<n*6
 · have h6:i / 6<(JD n).length:=by simp only[JD,List.length_replicate];omega
   have e1:((JD n).flatMap slc)[i]? = (slc (JD n)[i / 6])[i % 6]? := by
    rw[← VK YF (JD n) (i / 6) (i % 6) h6 (Nat.mod_lt _ (by omega))]
    congr 1;omega
   have e2:(JD n)[i / 6]=PSlot.none_:=by simp[JD]
   rw[e1,e2];simp only[Builtin.zeroCells,Array.toList_map,Array.toList_range,List.getElem?_map,List.size_toArray,List.length_cons,List.length_nil,Nat.reduceAdd];rw[List.getElem?_range (by omega)];have:i % 6=0∨i % 6=1∨i % 6=2∨i % 6=3∨i % 6=4∨i % 6=5:=by omega
   rcases this with h | h | h | h | h | h <;> simp only[Option.map_some,h] <;> rfl
 · rw[List.getElem?_eq_none (by simp[Builtin.zeroCells];omega),List.getElem?_eq_none]
   rw[KQ YF];simp only[JD,List.length_replicate];omega
theorem ZAb (w:World) (rt:TypeId) (m c g:Nat) (cur:List Value) (tt:TypeId) (hg:Blk w g tt cur.toArray) (hm:1≤m) (hfit:m*6≤cur.length) :
 ∃ w',(Builtin.clear_ #[322] rt #[.slice (some ⟨g,0,none⟩) m c]).run Tryz.prog w=.ok (.tuple #[]) w'∧Blk w' g tt (splice cur 0 ((JD m).flatMap slc)).toArray∧Keep [g] w w':=by
 obtain⟨i,hi,hz,hsz,hby⟩:=elemSlot.info;obtain⟨n',rfl⟩:∃ n',m=n'+1:=⟨m-1,by omega⟩;have hl:((JD (n'+1)).flatMap slc).length=(n'+1)*6:=by rw[KQ YF];simp[JD]
 have hst:=run_storeCells_at Tryz.prog g 0 tt ((JD (n'+1)).flatMap slc) 0 cur.toArray w hg (by simp[hl];omega) (by
  intro v hv;obtain⟨q,hq,hv⟩:=List.mem_flatMap.1 hv;rw[List.eq_of_mem_replicate hq] at hv;simp only[slc,PSlot.none_,POp.zero,List.mem_cons,List.not_mem_nil,or_false] at hv;rcases hv with rfl | rfl | rfl | rfl | rfl | rfl <;> rfl)
 refine⟨w.setRow g (splice cur 0 ((JD (n'+1)).flatMap slc)).toArray,?_,?_,?_⟩
 · have hzr:(zeroValue 326).run Tryz.prog w=.ok (.agg #[.int .i64 0,.int .i64 0,.int .i64 0,.int .i64 0,.slice none 0 0,.bool false]) w:=by simp[zeroValue,typeInfo,hi,hz]
   have hcl:(Value.agg #[.int .i64 0,.int .i64 0,.int .i64 0,.int .i64 0,.slice none 0 0,.bool false]).cells=#[.int .i64 0,.int .i64 0,.int .i64 0,.int .i64 0,.slice none 0 0,.bool false]:=rfl;simp only[Builtin.clear_,List.getElem?_toArray,List.getElem?_cons_zero,Sem.run_bind,run_underlying elemSlot.und,Result.andThen_ok,hzr,hcl,XAN,hst];simp[splice]
 · show _=_
   simpa [splice] using setRow_heap w g _ _ tt _ hg
 · exact⟨rfl,rfl,rfl,by simp[World.setRow],fun k hk hn=>setRow_other w g k _ (by simpa using hn)⟩
theorem ZAj (w:World) (base x:Nat) (L:Value) (F:List Nat) (next:Nat) (sl:List PSlot) (h:WinIs w base x L F next sl) (n:Nat) (hn:1≤n∧n≤2000000000) :
 Calls Tryz.prog 230 #[.pointer (some ⟨x,0,none⟩),.int .i64 (n:Nat)] w fun e w'=>e=.returned (.tuple #[])∧∃ F',WinIs w' base x L F' n (JD sl.length)∧Keep F w w'∧∀ z∈F',z∈F:=by
 have hN:=noneW_is w base x L F next sl h;obtain⟨g,c,rfl,hc⟩:=h.form;obtain⟨c0,c1⟩:=h.cells;have hpos:=h.pos
 obtain⟨cur,hb,hus,hum,hgb⟩:∃ cur:List Value,Blk w g 326 cur.toArray∧cur.length=c*6∧c≤9223372036854775807∧base≤g:=by
  rcases h.row.2 with⟨he,_⟩ | ⟨g',cap,cur,he,hb,hg,hn,hm,hs,ht⟩
  · cases he
  · cases he
    exact⟨cur.toList,hg,by simpa using hs,by simpa [maxLen] using hm,hb⟩
 have hl6:((JD sl.length).flatMap slc).length=sl.length*6:=by rw[KQ YF];simp[JD]
 have hc6:sl.length*6≤c*6:=Nat.mul_le_mul_right _ hc;obtain⟨w',hrun,hb',hk'⟩:=ZAb w 0 sl.length c g cur _ hb hpos (by omega);have hxg:x≠g:=fun e=>h.xL (by simp[Value.ownBlock,e])
 have hres:WinIs w' base x (.slice (some ⟨g,0,none⟩) sl.length c) (x :: ((Value.slice (some ⟨g,0,none⟩) sl.length c).ownBlock.toList++(JD sl.length).flatMap (fun q=>q.v.ownBlock.toList))) next (JD sl.length):=by
  refine⟨h.blk.keep hk' (by simpa using hxg),?_,fun q hq=>?_,rfl,h.base,by simp[JD];omega,by simpa [JD] using h.few,fun q hq _=>List.eq_of_mem_replicate hq,h.nb⟩
  · refine⟨by rw[hl6];simp[JD],.inr ⟨g,c,_,by simp[JD],hgb,hb',by simpa [JD] using hc,by simpa [maxLen] using hum,by simp only[splice,List.size_toArray,List.length_append,List.length_take,List.length_drop,hl6];omega,?_⟩⟩
    simp only[splice,List.take_zero,List.nil_append,Nat.zero_add];rw[List.take_append_of_le_length (by rw[hl6];simp[JD]),List.take_of_length_le (by rw[hl6];simp[JD])]
  · rw[List.eq_of_mem_replicate hq]
    exact PSlot.none_dat _ _
 have hF:∀ z∈x :: ((Value.slice (some ⟨g,0,none⟩) sl.length c).ownBlock.toList++(JD sl.length).flatMap (fun q=>q.v.ownBlock.toList)),z∈F:=by
  intro z hz;simp only[List.mem_cons,List.mem_append,List.mem_flatMap] at hz;rcases hz with rfl | hz | ⟨q,hq,hz⟩
  · exact h.inX
  · exact h.inL z hz
  · rw[List.eq_of_mem_replicate hq] at hz
    simp[PSlot.none_,Value.ownBlock] at hz
 obtain⟨hr2,hk2⟩:=hres.setNext n hn;have hkk:Keep F w w':=hk'.sub (fun z hz=>by simp at hz;subst hz;exact h.inL _ (by simp[Value.ownBlock]));have hn1:¬ ((n:Nat):Int)<1:=by omega
 have hn2:¬ (2147483647:Int)<((n:Nat):Int):=by omega
 have f1:=hres.blk.frozen 1;have d1:=hres.cells.2
 go_enter Tryz.func230,Tryz.ntmps230
 go_wp2_with (refine hN.mono ?_;clear hN;rintro e w' ⟨rfl,rfl⟩)
 go_end0
 exact⟨rfl,_,hr2,hkk.trans hk2 (fun z hz=>.inl (hF z hz)),hF⟩
end
section
open Go.RowKit Go.Shelf
theorem ReplicaIs.raise {w w':World} {base r s d x:Nat} {Fs Fx:List Nat} {B:Nat} {R:RS} (h:ReplicaIs w base r s d x Fs Fx B R) {Fs':List Nat} {S':PS} (hs:StoreAt w' base s d Fs' B S') (hk:Keep Fs w w') (hg:Grow w Fs Fs') (hm:S'.st.mode=1) (hv:1≤S'.st.view∧S'.st.view≤2147483647):ReplicaIs w' base r s d x Fs' Fx B ⟨S',R.next,R.sl⟩:=
 ⟨h.blk.keep hk h.rs,hs,h.win.keep hk h.ap.symm,h.ap.grow hg h.win.lt,fun hr=>(hg r hr).elim h.rs (by have:=h.blk.lt;omega),h.rx,h.rb,hm,hv⟩
def VAH (w:World) (base r s d x:Nat) (Fs Fx:List Nat) (B:Nat) (R:RS) (view:Nat) (e:Ending) (w':World):Prop:=
 ∃ (Fs' Fx':List Nat) (S':PS) (UA:Option Addr) (uc:Nat),ReplicaIs w' base r s d x Fs' Fx' B ⟨S',S'.st.seq+1,JD R.sl.length⟩∧Raised B R.S view 1 S'∧Keep (JO r Fs Fx) w w'∧Grow w (JO r Fs Fx) (JO r Fs' Fx') ∧
   e=.returned (.tuple #[.slice UA 25 uc,.int .i64 0])∧w'.ownsRow w.heap.size 5 1 (.slice UA 25 uc) 25 (bys (KF 8 S'.st.view S'.st.seq 0 0 S'.st.epoch S'.st.done []))
section
variable (w:World) (base r s d x:Nat) (Fs Fx:List Nat) (B:Nat) (R:RS) (h:ReplicaIs w base r s d x Fs Fx B R)
include h
theorem KAM (hs:R.S.st.seq≤2147483647) (he:R.S.st.epoch≤2147483647) (hd:R.S.st.done≤R.S.st.seq) :
 Calls Tryz.prog 143 #[.pointer (some ⟨r,0,none⟩),.int .i64 (R.S.st.view:Nat)] w fun e w'=>∃ UA uc,e=.returned (.tuple #[.slice UA 25 uc,.int .i64 0])∧w'.ownsRow w.heap.size 5 1 (.slice UA 25 uc) 25 (bys (KF 8 R.S.st.view R.S.st.seq 0 0 R.S.st.epoch R.S.st.done []))∧Keep [] w w':=by
 have hS:=JI w base s d Fs B R.S h.st;have hAn:=fun W (hk:Keep [] w W)=>Zj W base r s d x Fs Fx B R (h.keep0 hk) hs he hd;obtain⟨c0,c1⟩:=h.cells;clear h;generalize R.S.st=st at *;obtain⟨mode,vw,epoch,seq,done,mount,gen⟩:=st;simp only at hS hAn hs he hd ⊢
 go_enter Tryz.func143,Tryz.ntmps143
 go_wp2_with (first
  | (go_at_call 85;refine hS.mono ?_;clear hS;rintro e w1 ⟨rfl,hk1⟩)
  | (go_at_call 147;refine(hAn _ (hk1.alloc _)).mono ?_;clear hAn;rintro e w2 ⟨u,rfl,hu,hk2⟩))
 obtain⟨UA,uc,rfl,_⟩:=ZB hu;go_ret2;exact⟨UA,uc,rfl,ZC hu (by have:=hk1.size;simp;omega),(hk1.alloc _).trans0 hk2⟩
theorem VAg (kk j:Nat) (hg:Good B R.S kk j) (hx:Ext B R.S) (hj:j≤20000) (hgen:R.S.st.gen≤100000) (view:Nat) (hv:R.S.st.view<view) (hv2:view≤2147483647) :
 Calls Tryz.prog 143 #[.pointer (some ⟨r,0,none⟩),.int .i64 (view:Nat)] w (VAH w base r s d x Fs Fx B R view):=by
 have hS:=JI w base s d Fs B R.S h.st;have hRa:=fun W (hk:Keep [] w W)=>JAH W base s d Fs B R.S (h.keep0 hk).st kk j hg hx hj h.mode hgen view 1 hv hv2 (.inl rfl);obtain⟨c0,c1⟩:=h.cells;obtain⟨st,hst⟩:∃ st,st=R.S.st:=⟨_,rfl⟩;rw[← hst] at hS hv;have HST:=JB hst;clear hst;obtain⟨mode,vw,epoch,seq,done,mount,gen⟩:=st;simp only at hS hv;have hvI:¬ ((view:Nat):Int)<(vw:Nat):=by omega
 have hvI2:((vw:Nat):Int)<(view:Nat):=by omega
 have hfd:=fun(a0 a1 a2 a3 a4 a5 a6 a7 a8 a9:Value) W=>ZE (P:=Tryz.prog) Tryz.underlying72 3 rfl Tryz.isAgg3 #[a0,a1,a2,a3,a4,a5,a6,a7,a8,a9] rfl W
 go_enter Tryz.func143,Tryz.ntmps143
 go_wp2_with (first
  | (go_at_call 85
     refine hS.mono ?_;clear hS;rintro e w1 ⟨rfl,hk1⟩;have hkA:Keep [] w (w1.alloc (.cells #[.int .i64 mode,.int .i64 vw,.int .i64 epoch,.int .i64 seq,.int .i64 done,.int .i64 mount,.int .i64 gen,.int .i64 (YD R.S.us:Nat),.int .i64 (QAa R.S:Nat),.int .i64 (QJ R.S.I.ol:Nat)] 72)):=hk1.alloc _;have hRb:=hRa _ hkA;clear hRa c0 c1
     obtain⟨c0,c1⟩:=(h.keep0 hkA).cells)
  | (go_at_call 86
     refine hRb.mono ?_;clear hRb;rintro e w2 ⟨rfl,Fs2,S2,hs2,hR2,hk2,hg2⟩;have hGd:=hR2.good hg hx (by omega);have hr2:=(h.keep0 hkA).raise hs2 hk2 hg2 (by rw[hGd.2.2.2.2.1]) (by rw[hGd.2.2.2.2.1];exact⟨by simp only;omega,hv2⟩);have hs2b:S2.st.seq≤1000000:=by have:=hGd.1.seq;omega
     have he2b:S2.st.epoch≤1000000:=by have:=hGd.1.epoch;omega
     have hd2b:S2.st.done≤S2.st.seq:=hGd.1.done;clear hGd;obtain⟨d0,d1⟩:=hr2.cells))
 have hS2:=JI w2.drew base s d Fs2 B S2 (hr2.keep0 (Keep.refl _ _).drew).st;have hws:IntKind.i64.wrap (((S2.st.seq:Nat):Int)+1)=((S2.st.seq:Nat):Int)+1:=by rw[IntKind.wrap_i64];omega
 refine ZT (fun w'=>w'.cell? ⟨r,0,none⟩=some (.pointer (some ⟨s,0,none⟩))∧w'.cell? ⟨r,1,none⟩=some (.pointer (some ⟨x,0,none⟩))) 11 [[0,1,2,3,4,5,6,7],[8,9,10]] ⟨d0,d1⟩ ?_;simp only[PI]
 iterate 8 (refine ZH ?_;simp only[Act.put,PU])
 refine XB (by rfl) (fun K hK=>?_)
 go_wp2_with (refine hS2.mono ?_;clear hS2;rintro e w3 ⟨rfl,hk3⟩)
 replace hk3:Keep [] w2 w3:=(Keep.refl _ _).drew.trans0 hk3;have hr3:=hr2.keep0 hk3;refine hK _ _ (hr3.cells) ?_;clear hK K
 try simp only[Act.put,PU]
 iterate 2 (refine ZH ?_;simp only[Act.put,PU])
 refine YB ?_;obtain⟨L3,hw3⟩:=hr3.win;have hRs:=ZAj w3 base x L3 Fx R.next R.sl hw3 (S2.st.seq+1) ⟨by omega,by omega⟩;rw[show ((S2.st.seq+1:Nat):Int)=(S2.st.seq:Nat)+1 by simp] at hRs;have hsz2:w.heap.size≤w2.heap.size:=Nat.le_trans hkA.size hk2.size
 go_wp2_with (first
  | (go_at_call 230
     refine hRs.mono ?_;clear hRs;rintro e w4 ⟨rfl,F4,hw4,hk4,hF4⟩;have hr4:=hr3.setWin (n:=S2.st.seq+1) ⟨_,hw4⟩ hk4 (fun y hy=>.inl (hF4 y hy));obtain⟨d0,d1⟩:=hr4.cells
     have hAn:=Zj w4 base r s d x Fs2 F4 B _ hr4 (by simp only;omega) (by simp only;omega) hd2b)
  | (go_at_call 147
     refine hAn.mono ?_;clear hAn;rintro e w5 ⟨u,rfl,hu,hk5⟩))
 obtain⟨UA,uc,rfl,_⟩:=ZB hu;go_ret2;have K1:Keep (JO r Fs Fx) w w2:=hkA.zero.trans hk2 (fun y hy=>.inl (by simp[JO,hy]));have K2:Keep (JO r Fs Fx) w w4:=(K1.trans0 hk3).trans hk4 (fun y hy=>.inl (by simp[JO,hy]));refine⟨Fs2,F4,S2,UA,uc,hr4.keep0 hk5,hR2,K2.trans0 hk5,fun y hy=>?_,rfl,ZC hu K2.size⟩;simp only[JO,List.mem_cons,List.mem_append] at hy ⊢;rcases hy with hy | hy | hy
 · exact .inl (.inl hy)
 · exact(hg2 y hy).imp (fun h=>.inr (.inl h)) (fun h=>Nat.le_trans hkA.size h)
 · exact .inl (.inr (.inr (hF4 y hy)))
end
end
section
open Go.RowKit Go.Shelf
section
variable (w:World) (base r s d x:Nat) (Fs Fx:List Nat) (B:Nat) (R:RS) (h:ReplicaIs w base r s d x Fs Fx B R)
include h
omit h in
theorem YAa (v q b c e dn:Nat) (A:Option Addr) (n m:Nat):Calls Tryz.prog 142 #[.pointer (some ⟨r,0,none⟩),.agg #[.int .i64 9,.int .i64 v,.int .i64 q,.int .i64 b,.int .i64 c,.int .i64 e,.int .i64 dn,.slice A n m]] w fun e w'=>e=.returned (.bool false)∧Keep [] w w':=by
 have hkA:Keep [] w (w.alloc (.cells #[.int .i64 9,.int .i64 v,.int .i64 q,.int .i64 b,.int .i64 c,.int .i64 e,.int .i64 dn,.slice A n m] 152)):=(Keep.refl _ _).alloc _;have hbF:=Blk.new w 152 #[.int .i64 9,.int .i64 v,.int .i64 q,.int .i64 b,.int .i64 c,.int .i64 e,.int .i64 dn,.slice A n m];obtain⟨mx,hmx⟩:∃ mx:Int,max ((c:Nat):Int) 1=mx:=⟨_,rfl⟩
 go_enter Tryz.func142,Tryz.ntmps142
 go_wp2_with fail
 obtain⟨f0,f1,f2,f3,f4,f5,f6,f7⟩:=QC hbF;refine ZT (fun w'=>w'.cell? ⟨w.heap.size,0,none⟩=some (.int .i64 9)) 23 [[0,1,2,3,4,5,6,7,8,9,10,11,12,13,14,15,16,17,18,19,20],[21],[22]] f0 ?_;simp only[PI]
 iterate 13 (refine ZH ?_;simp only[Act.put,PU])
 iterate 8 (refine JL (by rfl) ?_;simp only[Act.put,PU])
 refine XG (by rfl) f0 ?_;simp only[Act.put,PU];refine XG (by rfl) f0 ?_;simp only[Act.put,PU];refine YB ?_
 go_wp2_with fail
 go_ret;exact⟨rfl,hkA.drew⟩
theorem Yo (v:Nat) (hv:1≤v∧v≤2147483647) (A:Option Addr) (cp:Nat) (ha:Rd w A 25 (bys (KF 9 v 0 0 0 0 0 []))) (Post:Ending→World→Prop)
 (hcont:∀ w3,Keep [] w w3→Calls Tryz.prog 143 #[.pointer (some ⟨r,0,none⟩),.int .i64 (v:Nat)] w3 fun e w'=>∃ U n c z,e=.returned (.tuple #[.slice U n c,.int .i64 z])∧Post e w') :
 Calls Tryz.prog 83 #[.pointer (some ⟨r,0,none⟩),.slice A 25 cp] w Post:=by
 have hD:=Yt 9 v 0 0 0 0 0 [] ⟨by omega,.inr (.inr (.inr (.inr ⟨rfl,rfl,rfl,rfl,rfl,rfl,rfl⟩)))⟩ A 25 cp w ha;have hR:=fun W (hk:Keep [] w W)=>readyR_ok W base r s d x Fs Fx B R (h.keep0 hk);have hSt:=fun W UA uc=>YAa W r v 0 0 0 0 0 UA 0 uc;clear h ha hv
 go_enter Tryz.func83,Tryz.ntmps83
 go_wp2_with (first
  | (go_at_call 140
     refine hD.mono ?_;clear hD;rintro e1 w1 ⟨UA,uc,rfl,hu,hk1⟩;have hbF:=Blk.new w1 152 #[.int .i64 9,.int .i64 (v:Nat),.int .i64 0,.int .i64 0,.int .i64 0,.int .i64 0,.int .i64 0,.slice UA 0 uc]
     have hkA:Keep [] w (w1.alloc (.cells #[.int .i64 9,.int .i64 (v:Nat),.int .i64 0,.int .i64 0,.int .i64 0,.int .i64 0,.int .i64 0,.slice UA 0 uc] 152)):=hk1.alloc _)
  | (go_at_call 141
     refine(hR _ hkA).mono ?_;clear hR;rintro e2 w2 ⟨rfl,hk2⟩;replace hbF:=hbF.keep0 hk2;replace hkA:=hkA.trans0 hk2
     obtain⟨f0,f1,f2,f3,f4,f5,f6,f7⟩:=QC hbF)
  | (go_at_call 142
     refine(hSt _ _ _).mono ?_;clear hSt;rintro e3 w3 ⟨rfl,hk3⟩;replace hbF:=hbF.keep0 hk3;replace hkA:=hkA.trans0 hk3;clear f0 f1 f2 f3 f4 f5 f6 f7
     obtain⟨f0,f1,f2,f3,f4,f5,f6,f7⟩:=QC hbF)
  | (go_at_call 143
     refine(hcont _ hkA).mono ?_;clear hcont;rintro e4 w4 ⟨U,n,c,z,rfl,hP⟩))
 exact hP
end
end
section
open Go.RowKit Go.Shelf
section
variable (w:World) (base r s d x:Nat) (Fs Fx:List Nat) (B:Nat) (R:RS) (h:ReplicaIs w base r s d x Fs Fx B R) (v:Nat) (hv:1≤v∧v≤2147483647) (A:Option Addr) (cp:Nat) (ha:Rd w A 25 (bys (KF 9 v 0 0 0 0 0 [])))
include h hv ha
theorem Kl (heq:v=R.S.st.view) (hs:R.S.st.seq≤2147483647) (he:R.S.st.epoch≤2147483647) (hd:R.S.st.done≤R.S.st.seq) :
 Calls Tryz.prog 83 #[.pointer (some ⟨r,0,none⟩),.slice A 25 cp] w fun e w'=>∃ UA uc,e=.returned (.tuple #[.slice UA 25 uc,.int .i64 0])∧w'.ownsRow w.heap.size 5 1 (.slice UA 25 uc) 25 (bys (KF 8 R.S.st.view R.S.st.seq 0 0 R.S.st.epoch R.S.st.done []))∧Keep [] w w':=by
 refine Yo w base r s d x Fs Fx B R h v hv A cp ha _ fun w3 hk=>?_;subst heq;refine(KAM w3 base r s d x Fs Fx B R (h.keep0 hk) hs he hd).mono ?_;rintro e w' ⟨UA,uc,rfl,hu,hk3⟩;exact⟨_,_,_,_,rfl,UA,uc,rfl,ZC hu hk.size,hk.trans0 hk3⟩
theorem Ju (kk j:Nat) (hg:Good B R.S kk j) (hx:Ext B R.S) (hj:j≤20000) (hgen:R.S.st.gen≤100000) (hup:R.S.st.view<v) :
 Calls Tryz.prog 83 #[.pointer (some ⟨r,0,none⟩),.slice A 25 cp] w (VAH w base r s d x Fs Fx B R v):=by
 refine Yo w base r s d x Fs Fx B R h v hv A cp ha _ fun w3 hk=>?_;refine(VAg w3 base r s d x Fs Fx B R (h.keep0 hk) kk j hg hx hj hgen v hup hv.2).mono ?_;rintro e w' ⟨Fs',Fx',S',UA,uc,h1,h2,h3,h4,rfl,h6⟩;exact⟨_,_,_,_,rfl,Fs',Fx',S',UA,uc,h1,h2,hk.zero.trans h3 (fun y hy=>.inl hy),fun y hy=>(h4 y hy).imp id (fun h=>Nat.le_trans hk.size h),rfl,ZC h6 hk.size⟩
end
end
end Go.Proofs.YtkonbpfbjiepfaaGreat
