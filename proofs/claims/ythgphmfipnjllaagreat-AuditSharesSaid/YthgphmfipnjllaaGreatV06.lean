/- Lemmas of the proof, with their conditions. -/
import Derived.Test.YthgphmfipnjllaaGreatV05
import Derived.Deep.Cut
namespace Go.Proofs.YthgphmfipnjllaaGreat
set_option linter.unusedSimpArgs false
set_option linter.unusedVariables false
set_option maxHeartbeats 2000000
set_option maxRecDepth 20000
section
open Go.RowKit
def Zz (s:List UInt8) (l:List (Nat×List UInt8)):List UInt8:=l.foldl (fun s p=>laid s (p.1*64) p.2) s
theorem KAE (s:List UInt8) (l:List (Nat×List UInt8)) (p:Nat×List UInt8):Zz s (l++[p])=laid (Zz s l) (p.1*64) p.2:=by simp[Zz]
def PDisk.flush (D:PDisk):PDisk:={ D with acts:=D.acts+1,safe:=Zz D.safe D.held,held:=[] }
theorem Jv (l:List (Nat×List UInt8)) (h:∀ p∈l,p.2.length=64):(l.flatMap JQ).length=l.length*65:=by
 induction l with
 | nil=>rfl
 | cons p l ih=>rw[List.flatMap_cons,List.length_append,ih (fun q hq=>h q (List.mem_cons_of_mem _ hq))];simp[JQ,h p List.mem_cons_self];omega
theorem JAS (l:List (Nat×List UInt8)) (h:∀ p∈l,p.2.length=64) (i:Nat) (hi:i<l.length):seg 65 (l.flatMap JQ) i=JQ l[i]:=by
 induction l generalizing i with
 | nil=>simp at hi
 | cons p l ih=>
   have hp:(JQ p).length=65:=by simp[JQ,h p List.mem_cons_self]
   cases i with
   | zero=>
     unfold seg
     rw[Nat.zero_mul,List.drop_zero,List.flatMap_cons,List.take_append,List.take_of_length_le (by omega),hp]
     simp
   | succ i=>
     have:=ih (fun q hq=>h q (List.mem_cons_of_mem _ hq)) i (by simpa using hi)
     unfold seg at this ⊢
     rw[List.flatMap_cons,Nat.succ_mul,List.drop_append,List.drop_of_length_le (by omega),List.nil_append,hp,show i*65+65-65=i*65 by omega,this]
     rfl
theorem XAa (p:Nat×List UInt8):∀ u∈JQ p,u.oneCell'=true:=by
 intro u hu
 rcases List.mem_cons.1 hu with rfl | hu
 · rfl
 · exact Ja _ u hu
theorem isRow_write:∃ fs,Tryz.prog.underlying 250=some (.struct fs):=⟨_,Tryz.underlying250⟩
theorem VAP (b o:Nat) (cs:List Value) (hl:cs.length=65) (W:World) (h:W.rangeAt b o cs):(Instr.loadAt 250 (.pointer (some ⟨b,o,none⟩))).run Tryz.prog W=.ok (.agg cs.toArray) W:=by
 obtain⟨fs,hfs⟩:=isRow_write
 exact run_loadAt_mid W b o 250 cs _ h hfs rfl (by rw[hl];kernel_rfl)
theorem YAF (b o:Nat) (cs:List Value) (hl:cs.length=65) (h1:∀ u∈cs,u.oneCell'=true) (W:World) (h:W.there b o 65):(Instr.storeAt 250 (.pointer (some ⟨b,o,none⟩)) (.agg cs.toArray)).run Tryz.prog W=.ok () (W.setCells b o cs):=
 run_storeAt_mid W b o 250 cs.toArray (by simpa [hl] using h) (by rw[List.size_toArray,hl];kernel_rfl) (all_oneCell_toArray h1)
theorem QAI (w:World) (base d:Nat) (F:List Nat) (D:PDisk) (h:DiskAt w base d F D) (hoff:D.off=false) (hfuse:D.fuse = -1) (ha:D.acts≤1000000000) (hbase:base≤w.heap.size) :
 Calls Tryz.prog 101 #[.pointer (some ⟨d,0,none⟩)] w fun e w'=>e=.returned (.int .i64 0)∧∃ F',DiskAt w' base d F' D.flush∧Keep F w w'∧Grow w F F':=by
 obtain⟨S,N,H,U,h⟩:=h
 obtain⟨g,sc,rfl,hsc,hc63⟩:=QD h.safe h.pos
 have hT:=VAs w base d _ N H U F D h hoff hfuse ha
 go_enter Tryz.func101,Tryz.ntmps101
 go_wp2_with (refine hT.mono ?_;clear hT;rintro e w1 ⟨rfl,h1,hk1⟩;obtain⟨c0,c1,c2,c3,c4,c5,c6⟩:=XH h1.blk;have hh1:w1.ownsRow base 250 65 H D.held.length (D.held.flatMap JQ):=h1.held;obtain⟨HA,hc,rfl,_⟩:=QB hh1;clear hh1)
 go_loopw [5,18] (fun _ i wr=>∃ (m:Nat) (S':List UInt8),m≤D.held.length∧i=.int .i64 m∧S'=Zz D.safe (D.held.take m)∧DiskIs wr base d (.slice (some ⟨g,0,none⟩) D.n sc) N (.slice HA D.held.length hc) U F { D.act with safe:=S' }∧Keep F w wr) (fun _ i _=>D.held.length-(intOf i).toNat)
 case atStart=>exact⟨0,_,Nat.zero_le _,rfl,rfl,h1,hk1.sub (by rw[h.foot];simp)⟩
 case round=>
  obtain⟨m,S',hm,rfl,hS',hr,hkr⟩:=hrel
  by_cases hlt:m<D.held.length
  · have hh:wr.ownsRow base 250 65 (.slice HA D.held.length hc) D.held.length (D.held.flatMap JQ):=hr.held
    obtain⟨hg,hc',he,hc1,hc2⟩:=QD hh (by omega)
    injection he with he _ he2
    subst he he2
    have hltI:((m:Nat):Int)<(D.held.length:Nat):=by omega
    have hhl:=Jv D.held (fun p hp=>(h.ats p hp).2)
    have hp:=h.ats D.held[m] (List.getElem_mem hlt)
    have hcl:(JQ D.held[m]).length=65:=by simp[JQ,hp.2]
    have hrg:=Kx hh hlt
    rw[JAS _ (fun p hp=>(h.ats p hp).2) m hlt] at hrg
    go_upto_region 8 with fail
    refine wp_region_lit ?_
    refine Kd rfl (Kf _ _ _ rfl _ _ rfl rfl (KT Tryz.underlying171 (s:=65) (by kernel_rfl) hg 0 D.held.length hc m hlt _)) ?_
    simp only[Act.put,PU]
    rw[Nat.zero_add]
    refine XAp rfl _ _ rfl _ rfl (VAP hg (m*65) (JQ D.held[m]) hcl _ hrg) ?_
    simp only[Act.put,PU]
    refine QAb rfl _ rfl (.agg ((.int .i64 0 :: List.replicate 64 (.int .u8 0)).toArray)) (by kernel_rfl) ?_
    simp only[Act.put,PU]
    have hB0:=Blk.new wr 250 (Value.agg ((.int .i64 0 :: List.replicate 64 (.int .u8 0)).toArray)).cells
    refine XX rfl _ _ _ rfl _ _ rfl rfl (YAF wr.heap.size 0 (JQ D.held[m]) hcl (XAa _) _ (VX hB0 65 (by simp[Value.cells]))) ?_
    simp only[Act.put,PU]
    have hB1:=hB0.all (JQ D.held[m]) (by simp[hcl,Value.cells])
    have hkA:Keep [] wr ((wr.alloc (.cells (Value.agg ((.int .i64 0 :: List.replicate 64 (.int .u8 0)).toArray)).cells 250)).setCells wr.heap.size 0 (JQ D.held[m])):=Keep.setCells _ _ ((Keep.refl _ _).alloc _) (.inr (Nat.le_refl _))
    obtain⟨b,hb⟩:∃ b,b=wr.heap.size:=⟨_,rfl⟩
    rw[← hb] at hB1 hkA ⊢
    have HB:=ZB hb
    clear hb
    generalize (wr.alloc (.cells (Value.agg ((.int .i64 0 :: List.replicate 64 (.int .u8 0)).toArray)).cells 250)).setCells b 0 (JQ D.held[m])=w2 at *
    have hr2:=hr.keep0 hkA
    obtain⟨j0,j1,j2,j3,j4,j5,j6⟩:=XH hr2.blk
    have hx0:w2.cell? ⟨b,0,none⟩=some (.int .i64 D.held[m].1):=by rw[hB1.cell];simp[JQ]
    have hx1:w2.rangeAt b 1 (bys D.held[m].2):=by
     have:=KAV hB1.range 1 64
     rw[List.toList_toArray,JQ,List.drop_succ_cons,List.drop_zero,List.take_of_length_le (by simp[hp.2]),Nat.zero_add] at this
     exact this
    go_wp2_with fail
    refine ZT (fun w'=>w'.cell? ⟨d,0,none⟩=some (.slice (some ⟨g,0,none⟩) D.n sc)∧w'.cell? ⟨b,0,none⟩=some (.int .i64 D.held[m].1)∧(Instr.loadAt 248 (.pointer (some ⟨b,1,none⟩))).run Tryz.prog w'=.ok (.agg (bys D.held[m].2).toArray) w') 8 [[0,1,2,3,4,5,6,7]] ⟨j0,hx0,Vq b 1 _ hp.2 _ hx1⟩ ?_
    simp only[PI]
    iterate 7 (refine ZH ?_;simp only[Act.put,PU])
    refine KM _ (by rfl) (fun W hW=>ZX _ _ rfl _ rfl hW.2.2) ?_
    try simp only[Act.put,PU]
    refine JB ?_
    refine Kd rfl (Kf _ _ _ rfl _ _ rfl rfl (KT Tryz.underlying170 (s:=64) (by kernel_rfl) g 0 D.n sc D.held[m].1 hp.1 _)) ?_
    simp only[Act.put,PU]
    refine XX rfl _ _ _ rfl _ _ rfl rfl (Yk g _ _ hp.2 _ (by simpa using ZAB hr2.safe.drew hp.1)) ?_
    simp only[Act.put,PU]
    rw[Nat.zero_add]
    have hgd:g≠d:=fun e=>hr2.dS (by simp[Value.ownBlock,e])
    have hk34:Keep [g] w2 (w2.drew.setCells g (D.held[m].1*64) (bys D.held[m].2)):=Keep.setCells _ _ (Keep.refl _ _).drew (.inl (by simp))
    have hS4:=Js hr2.safe.drew hp.1 (ys:=bys D.held[m].2) (by simp[hp.2])
    rw[Qx] at hS4
    have hNg:∀ x,N.ownBlock=some x→x∉[g]:=fun x hx=>by simp;rintro rfl;exact hr2.ne (by simpa [Value.ownBlock] using hx.symm)
    have hne:=hr2.ne
    have hfoot:=hr2.foot
    have hr4:DiskIs (w2.drew.setCells g (D.held[m].1*64) (bys D.held[m].2)) base d (.slice (some ⟨g,0,none⟩) D.n sc) N (.slice (some ⟨hg,0,none⟩) D.held.length hc) U F { D.act with safe:=laid S' (D.held[m].1*64) D.held[m].2 }:=
     ⟨hr2.blk.keep hk34 (by simpa using fun e=>hgd e.symm),hS4,KA hr2.now hk34 hNg,KA hr2.held hk34 (fun x hx=>by simp;rintro rfl;exact own_ne hr2.safe hr2.held (by decide) rfl hx),KA hr2.flt hk34 (fun x hx=>by simp;rintro rfl;exact own_ne hr2.safe hr2.flt (by decide) rfl hx),
       hne,hfoot,hr2.base,hr2.pos,hr2.few,hr2.ats,hr2.acts⟩
    have hkF:Keep F w (w2.drew.setCells g (D.held[m].1*64) (bys D.held[m].2)):=(hkr.trans0 hkA).trans (hk34.sub (m:=F) (by intro x hx;simp at hx;subst hx;rw[hfoot];simp[Value.ownBlock])) (fun x hx=>.inl hx)
    generalize w2.drew.setCells g (D.held[m].1*64) (bys D.held[m].2)=w4 at *
    go_wp2_with fail
    go_roundw
    case rel=>exact⟨m+1,_,by omega,by go_num,by rw[List.take_succ_eq_append_getElem hlt,KAE,← hS'],hr4,hkF⟩
    case measure=>simp[intOf];omega
  · obtain rfl:m=D.held.length:=by omega
    have hfr:=hr.blk.frozen 2
    have k2:=(XH hr.blk).2.2.1
    have hk5:Keep [d] wr (wr.setCell ⟨d,2,none⟩ (.slice none 0 0)):=(Keep.refl _ _).setCell (p:=⟨d,2,none⟩) (.inl (by simp)) _
    have hb5:=hr.blk.set 2 (.slice none 0 0)
    have HF:=ZB hr.foot
    have hS5:=KA hr.safe hk5 (fun x hx=>by simp;rintro rfl;exact hr.dS (by simpa using hx))
    have hN5:=KA hr.now hk5 (fun x hx=>by simp;rintro rfl;exact hr.dN (by simpa using hx))
    have hU5:=KA hr.flt hk5 (fun x hx=>by simp;rintro rfl;exact hr.dU (by simpa using hx))
    go_wp2_with fail
    go_ret
    have hfoot:=QA HF
    rw[List.take_length] at hS'
    subst hS'
    refine⟨rfl,_,⟨_,_,_,_,by simpa [PDisk.flush,PDisk.act] using hb5,hS5,hN5,World.ownsRow_nil _ _ _ _,hU5,hr.ne,rfl,hr.base,hr.pos,hr.few,by simp[PDisk.flush],by simp[PDisk.flush]⟩,hkr.trans (hk5.sub (by rw[hfoot];simp)) (fun x hx=>.inl hx),?_⟩
    intro x hx
    left
    rw[hfoot]
    simp only[List.mem_cons,List.mem_append] at hx ⊢
    rcases hx with h1 | h1 | h1 | h1 | h1 <;> first | (simp[Value.ownBlock] at h1;done) | (simp[h1];done)
end
section
open Go.RowKit
section
variable (w:World) (base d:Nat) (F:List Nat) (D:PDisk)
theorem KAK (h:DiskAt w base d F D):Calls Tryz.prog 64 #[.pointer (some ⟨d,0,none⟩)] w fun e w'=>e=.returned (.bool D.off)∧w=w':=by
 obtain⟨S,N,H,U,h⟩:=h
 obtain⟨c0,c1,c2,c3,c4,c5,c6⟩:=XH h.blk
 go_enter Tryz.func64,Tryz.ntmps64
 go_wp2
 go_ret
 exact⟨rfl,rfl⟩
theorem QAG (h:DiskAt w base d F D):Calls Tryz.prog 206 #[.pointer (some ⟨d,0,none⟩)] w fun e w'=>e=.returned (.int .i64 (D.n:Nat))∧w=w':=by
 obtain⟨S,N,H,U,h⟩:=h
 obtain⟨g,nc,rfl,hnc,hc63⟩:=QD h.now h.pos
 obtain⟨c0,c1,c2,c3,c4,c5,c6⟩:=XH h.blk
 go_enter Tryz.func206,Tryz.ntmps206
 go_wp2
 go_ret
 exact⟨rfl,rfl⟩
theorem YAK (h:DiskAt w base d F D) (hoff:D.off=false) (k:Nat) (hk:k<D.n) (hf:D.faults[k]? = some false) :
 Calls Tryz.prog 209 #[.pointer (some ⟨d,0,none⟩),.int .i64 (k:Nat)] w fun e w'=>∃ u,e=.returned (.tuple #[u,.int .i64 0])∧w'.ownsRow w.heap.size 5 1 u 64 (bys (seg 64 D.now k))∧Keep [] w w':=by
 obtain⟨S,N,H,U,h⟩:=h
 obtain⟨g,nc,rfl,hnc,hc63⟩:=QD h.now h.pos
 obtain⟨gu,uc,rfl,huc,huc63⟩:=QD h.flt h.pos
 obtain⟨c0,c1,c2,c3,c4,c5,c6⟩:=XH h.blk
 rw[hoff] at c6
 have hH:=YAV w base d S _ H _ F D h k hk
 have hkI:((k:Nat):Int)<(D.n:Nat):=by omega
 have hcf:w.cell? ⟨gu,k,none⟩=some (.bool false):=QK h.flt (by rw[List.getElem?_map,hf];rfl)
 have hrg:=Kx h.now hk
 rw[Xw] at hrg
 have hsl:=length_seg 64 D.now k (by have:=h.len.1;omega)
 have hrd:Rd w (some ⟨g,k*64,none⟩) 64 (bys (seg 64 D.now k)):=⟨by simp[hsl],fun _=>⟨g,k*64,rfl,YY h.now g (by simp[Value.ownBlock]),hrg⟩⟩
 have hT:=XR (some ⟨g,k*64,none⟩) 64 64 _ w hrd (by omega)
 go_enter Tryz.func209,Tryz.ntmps209
 go_wp2_with (first | (refine hH.mono ?_;clear hH;rintro e w' ⟨rfl,rfl⟩) | (refine hT.mono ?_;clear hT;rintro e w1 ⟨u,rfl,hu,hk1,_⟩))
 go_ret2
 exact⟨_,rfl,hu,hk1⟩
end
def PDisk.new (n:Nat):PDisk:=⟨n,List.replicate (n*64) 0,List.replicate (n*64) 0,[],List.replicate n false,-1,0,false⟩
theorem elemBlock:ElemN Tryz.prog 170 248 (.agg (Array.replicate 64 (.int .u8 0))) 64 64:=ElemN.of Tryz.underlying170 (by kernel_rfl) (by simp[Value.cells]) (by omega)
theorem elemBool:ElemN Tryz.prog 172 4 (.bool false) 1 1:=ElemN.of Tryz.underlying172 (by kernel_rfl) rfl (by omega)
theorem XL {w:World} {base g n s m:Nat} {e:TypeId} {z:Value} {xs:List Value} (h:Blk w g e (madeCells (Array.replicate s z) (n*s))) (hs:0<s) (hb:base≤g) (hn:n≤9223372036854775807) (hx:xs=List.replicate (n*s) z) (hm:m=n) :
 w.ownsRow base e s (.slice (some ⟨g,0,none⟩) m m) m xs:=by
 subst hm
 rw[QN _ _ _ hs] at h
 subst hx
 exact⟨by simp,.inr ⟨g,m,_,rfl,hb,h,Nat.le_refl _,by simpa [maxLen] using hn,by simp,by simp⟩⟩
theorem YAv (n:Nat) (h0:0<n) (hn:n≤4096) (w:World) :
 Calls Tryz.prog 123 #[.int .i64 (n:Nat)] w fun e w'=>∃ d F,e=.returned (.tuple #[.pointer (some ⟨d,0,none⟩),.int .i64 0])∧DiskAt w' w.heap.size d F (PDisk.new n)∧Keep [] w w':=by
 go_enter Tryz.func123,Tryz.ntmps123
 go_wp2_with fail
 refine ZR (fun w'=>Keep [] w w') 6 (.held 0 (.held 2 (.held 4 (.three 1 (.two 3 (.loud 5 .nil) 5 (.loud 3 .nil)) 3 (.two 1 (.loud 5 .nil) 5 (.loud 1 .nil)) 5 (.two 1 (.loud 3 .nil) 3 (.loud 1 .nil)))))) (Keep.refl _ _).drew ?_
 simp only[RT.pick,PJ]
 iterate 3 (refine ZK ?_;simp only[Act.put,PU])
 refine wpR_three ?_ ?_ ?_
 all_goals
  refine wpR_loud (by rfl) (fun K hK=>?_)
  first
   | refine elemBlock.wp1_make _ _ rfl .i64 .i64 n rfl rfl (by omega) (by omega) ?_
   | refine elemBool.wp1_make _ _ rfl .i64 .i64 n rfl rfl (by omega) (by omega) ?_
  intro w1 g1 hg1 hs1 hb1 hk1
  replace hk1:=(Keep.refl [] w).drew.trans0 hk1
  refine hK _ _ (hk1) ?_
  clear hK K
  try simp only[Act.put,PU]
  refine wpR_two ?_ ?_
 all_goals
  refine wpR_loud (by rfl) (fun K hK=>?_)
  first
   | refine elemBlock.wp1_make _ _ rfl .i64 .i64 n rfl rfl (by omega) (by omega) ?_
   | refine elemBool.wp1_make _ _ rfl .i64 .i64 n rfl rfl (by omega) (by omega) ?_
  intro w2 g2 hg2 hs2 hb2 hk2
  refine hK _ _ (hk1.trans0 hk2) ?_
  clear hK K
  try simp only[Act.put,PU]
  refine wpR_loud (by rfl) (fun K hK=>?_)
  first
   | refine elemBlock.wp1_make _ _ rfl .i64 .i64 n rfl rfl (by omega) (by omega) ?_
   | refine elemBool.wp1_make _ _ rfl .i64 .i64 n rfl rfl (by omega) (by omega) ?_
  intro w3 g3 hg3 hs3 hb3 hk3
  refine hK _ _ ((hk1.trans0 hk2).trans0 hk3) ?_
  clear hK K
  try simp only[Act.put,PU]
  refine wpR_nil ?_
  replace hb1:=(hb1.keep0 hk2).keep0 hk3
  replace hb2:=hb2.keep0 hk3
  have hks:=hk1.size
  have hw:Keep [] w w3:=(hk1.trans0 hk2).trans0 hk3
  have ho:w.heap.size≤g1∧g1<g2∧g2<g3:=by simp at hg1;omega
  clear hk1 hk2 hk3 hg1 hg2 hg3 hs1 hs2 hs3 hks
  obtain⟨ho1,ho2,ho3⟩:=ho
  go_wp2_with fail
  go_ret2
  refine⟨_,_,rfl,⟨_,_,_,_,⟨Blk.new _ _ _,YD (XL (e:=248) (s:=64) (z:=.int .u8 0) (by assumption) (by omega) (by omega) (by show n≤_;omega) (by simp[bys,by8,PDisk.new]) rfl) _,YD (XL (e:=248) (s:=64) (z:=.int .u8 0) (by assumption) (by omega) (by omega) (by show n≤_;omega) (by simp[bys,by8,PDisk.new]) rfl) _,World.ownsRow_nil _ _ _ _,
   YD (XL (e:=4) (s:=1) (z:=.bool false) (by assumption) (by omega) (by omega) (by show n≤_;omega) (by simp[PDisk.new]) rfl) _,by simp[Value.ownBlock];omega,rfl,hw.size,h0,hn,by simp[PDisk.new],by simp[PDisk.new]⟩⟩,hw.alloc _⟩
end
end Go.Proofs.YthgphmfipnjllaaGreat
