/- Lemmas of the proof, with their conditions. -/
import Derived.Test.YthgphmfipnjllaaGreatV12
import Derived.Test.YthgphmfipnjllaaGreatV11
namespace Go.Proofs.YthgphmfipnjllaaGreat
set_option linter.unusedSimpArgs false
set_option linter.unusedVariables false
set_option maxHeartbeats 4000000
set_option maxRecDepth 20000
section
open Go.RowKit
def ZQ (bs:List UInt8):Nat:=(~~~ QL 0xFFFFFFFF#32 bs).toNat
theorem KX (bs:List UInt8):ZQ bs<4294967296:=(~~~ QL 0xFFFFFFFF#32 bs).isLt
theorem KAd (x:BitVec 32):wrap64 (bits BinOp.xor IntKind.u32 IntKind.u32.max (x.toNat:Nat))=((~~~ x).toNat:Nat):=by
 have h:=(~~~ x).isLt
 rw[show IntKind.u32.max=((BitVec.allOnes 32).toNat:Nat) by decide,Yu,BitVec.allOnes_xor]
 unfold wrap64
 omega
theorem KAU (A:Option Addr) (n c:Nat) (ls:List (Value×List UInt8)) (w:World) (ha:Rws w A n ls) (hn:n≤9223372036854775807) :
 Calls Tryz.prog 346 #[.slice A n c] w fun e w'=>e=.returned (.int .i64 (ZQ (ls.flatMap (·.2)):Nat))∧w=w':=by
 have hl:=ha.len
 have HL:=ZB hl
 clear hl
 go_enter Tryz.func346,Tryz.ntmps346
 go_wp2
 go_loop [3,8] (fun v i=>∃ k:Nat,k≤n∧i=.int .i64 k∧v=.int .u32 ((QL 0xFFFFFFFF#32 ((ls.take k).flatMap (·.2))).toNat:Nat)) (fun _ i=>n-(intOf i).toNat)
 case atStart=>exact⟨0,Nat.zero_le _,rfl,rfl⟩
 case round=>
  obtain⟨k,hk,rfl,rfl⟩:=hrel
  by_cases hlt:k<n
  · have hkl:k<ls.length:=by rw[QA HL];exact hlt
    obtain⟨b,o,rfl,hb,hc,hr⟩:=ha.at_ hlt hkl
    have hsn:QL 0xFFFFFFFF#32 ((ls.take (k+1)).flatMap (·.2))=QL (QL 0xFFFFFFFF#32 ((ls.take k).flatMap (·.2))) ls[k].2:=by
     rw[List.take_succ_eq_append_getElem hkl,List.flatMap_append,Yt];simp
    have HS:=ZB hsn
    clear hsn
    generalize QL 0xFFFFFFFF#32 ((ls.take k).flatMap (·.2))=y at *
    generalize ls[k]=p at *
    obtain⟨pv,pb⟩:=p
    obtain⟨PA,pn,pc,hpv,h1,h2,h3⟩:=hr
    simp only at hpv
    subst hpv
    have hT:=JAv y PA pn pc pb w h3 (by omega)
    go_wp2_with (refine hT.mono ?_;clear hT;rintro e w' ⟨rfl,rfl⟩)
    go_round
    case rel=>exact⟨k+1,by omega,by go_num,by rw[QA HS]⟩
    case measure=>simp[intOf];omega
  · obtain rfl:k=n:=by omega
    go_wp2
    go_ret
    exact⟨VI (by rw[List.take_of_length_le (Nat.le_of_eq (QA HL))];exact KAd _),rfl⟩
theorem JAL (base:Nat) (v:Value) (bs:List UInt8) (w:World) (hv:w.ownsRow base 5 1 v bs.length (bys bs)) (h4:4≤bs.length) (hn:bs.length≤1000000) :
 Calls Tryz.prog 291 #[v] w fun e w'=>e=.returned v∧w'.ownsRow base 5 1 v bs.length (bys (laid bs (bs.length-4) (le 4 (ZQ (bs.take (bs.length-4))))))∧Keep v.ownBlock.toList w w':=by
 obtain⟨g,c,rfl,hc⟩:=ZG hv (by omega)
 have hrd:=Rd.of_own hv
 obtain⟨n,hn'⟩:∃ n,bs.length=n+4:=⟨bs.length-4,by omega⟩
 have hrt:=hrd.take (k:=n) (by omega)
 rw[YO] at hrt
 have hgl:=VAI hv
 obtain⟨s,hs⟩:∃ s,ZQ (bs.take n)=s:=⟨_,rfl⟩
 have hslt:=KX (bs.take n)
 rw[hs] at hslt
 rw[hn'] at hv hc hn h4 ⊢
 rw[show n+4-4=n by omega,hs]
 have hR:Rws (w.alloc (.cells #[.slice (some ⟨g,0,none⟩) n c] 39)) (some ⟨w.heap.size,0,none⟩) 1 [(.slice (some ⟨g,0,none⟩) n c,bs.take n)]:=
  ⟨KO _ _ _,fun p hp=>by
    rw[List.mem_singleton.1 hp]
    exact⟨_,n,c,rfl,by omega,by omega,hrt.keep ((Keep.refl _ _).alloc _)⟩⟩
 have hT:=KAU _ 1 1 _ _ hR (by omega)
 rw[show ([((Value.slice (some ⟨g,0,none⟩) n c),bs.take n)].flatMap (·.2))=bs.take n by simp,hs] at hT
 have hrun:=fun W=>elem8.run_h (some ⟨g,0,none⟩) (n+4) c .i64 (n:Nat) (by omega) (by omega) W
 rw[Int.toNat_natCast] at hrun
 have HR:=ZB hrun
 have HN:=ZB hn'
 have HSL:=ZB hslt
 clear hrun hrt hR hs hn' hrd hslt
 go_enter Tryz.func291,Tryz.ntmps291
 go_wp2_with (first
  | (refine Xa rfl (.tmp 9) none (some (.tmp 10)) rfl (.slice (some ⟨g,0,none⟩) n c) ?hrun ?_)
  | (refine hT.mono ?_;clear hT;rintro e w' ⟨rfl,rfl⟩))
 case hrun=>
  intro W
  have h:=QA HR W
  exact h
 go_loopw [5,14] (fun _ i wr=>∃ m:Nat,m≤4∧i=.int .i64 m∧wr.ownsRow base 5 1 (.slice (some ⟨g,0,none⟩) (n+4) c) (n+4) (bys (laid bs n (le m s)))∧Keep [g] w wr) (fun _ i _=>4-(intOf i).toNat)
 case atStart=>exact⟨0,by omega,rfl,by rw[le_zero,laid_nil];exact YD hv _,(Keep.refl _ _).alloc _⟩
 case round=>
  obtain⟨m,hm,rfl,hown,hkp⟩:=hrel
  by_cases hm4:m<4
  · have hcell:wr.cell? ⟨g,n+m,none⟩=some ((bys (laid bs n (le m s)))[n+m]'(by rw[length_bys,XF _ _ _ (by simp;have:=QA HN;omega)];have:=QA HN;omega)):=QK hown (List.getElem?_eq_getElem _)
    have hfz:=XJ hown (n+m)
    generalize (bys (laid bs n (le m s)))[n+m]'_=u at hcell
    go_wp2
    go_roundw
    case rel=>
     refine⟨m+1,by omega,by go_num,?_,hkp.setCell (.inl (by simp)) _⟩
     rw[XAe _ _ (by have:=QA HSL;omega) (by omega),le_succ]
     exact Kv hown (by simp;have:=QA HN;omega) _ _ (by simp)
    case measure=>simp[intOf];omega
  · obtain rfl:m=4:=by omega
    go_wp2
    go_ret
    exact⟨rfl,hown,by simpa [Value.ownBlock] using hkp⟩
end
section
open Go.RowKit
theorem Elem.wp_copyOwn {P:Program} {t e:TypeId} {z:Value} {bytes:Nat} (E:Elem P t e z bytes) {w:World} {ops:Array Oper} {rest:List Oper} {o:Oper} {a:Act} {Q:Exit→Act→World→Prop} (hgd:o.guard=none) (d s:Operand)
 (ho:o.op=.call { callee:=.builtin .copy,args:=#[d,s],argTypes:=#[t,t] })
 (base:Nat) (A:Option Addr) (n c:Nat) (xs:List Value) (off:Nat) (hd:a.eval d=.slice (cutA A off c) (n-off) (c-off)) (hown:w.ownsRow base e 1 (.slice A n c) n xs)
 (S:Option Addr) (m sc:Nat) (ys:List Value) (hx:a.eval s=.slice S m sc) (hr:Rd w S m ys) (h1:∀ u∈ys,u.oneCell'=true) (hm:off+m≤n)
 (h:∀ w',w'.ownsRow base e 1 (.slice A n c) n (laid xs off ys)→Keep (Value.slice A n c).ownBlock.toList w w'→wpList P ops Q rest (a.put o.dst (.int .i64 (m:Nat))) w'):wpList P ops Q (o :: rest) a w:=
 wpList_plain hgd fun _ hK=>E.wp1_copyOwn d s ho base A n c xs off hd hown S m sc ys hx hr h1 hm fun w' h2 h3=>hK _ _ (h w' h2 h3)
structure RefAt (w:World) (base r:Nat) (v:Value) (bs:List UInt8) (a:Nat):Prop where
 blk:Blk w r 325 #[v,.int .i64 a]
 own:w.ownsRow base 5 1 v bs.length (bys bs)
 base:base≤r
 le:a≤bs.length
 few:bs.length≤65536
namespace RefAt
variable {w w':World} {base r a:Nat} {v:Value} {bs:List UInt8}
theorem keep0 (h:RefAt w base r v bs a) (hk:Keep [] w w'):RefAt w' base r v bs a:=⟨h.blk.keep0 hk,ZA h.own hk,h.base,h.le,h.few⟩
theorem drew (h:RefAt w base r v bs a):RefAt w.drew base r v bs a:=h.keep0 (Keep.refl _ _).drew
theorem not_mem (h:RefAt w base r v bs a):r∉v.ownBlock.toList:=fun hm=>own_blk_ne h.own h.blk (by decide) (by simpa using hm)
theorem c0 (h:RefAt w base r v bs a):w.cell? ⟨r,0,none⟩=some v:=by simpa using h.blk.cell 0
theorem c1 (h:RefAt w base r v bs a):w.cell? ⟨r,1,none⟩=some (.int .i64 a):=by simpa using h.blk.cell 1
theorem fresh (h:RefAt w base r v bs a):∀ x∈r :: v.ownBlock.toList,base≤x:=fun x hx=>by
 rcases List.mem_cons.1 hx with rfl | hx
 · exact h.base
 · exact(own_mem h.own hx).1
end RefAt
theorem ZE (n lo hi:Int) (b:Bool) (hb:decide (lo≤n∧n≤hi)=b) (w:World) :
 Calls Tryz.prog 226 #[.int .i64 n,.int .i64 lo,.int .i64 hi] w fun e w'=>e=.returned (.bool b)∧w=w':=by
 subst hb
 exact JAP n lo hi w
theorem XAS (n:Nat) (hn:n≤65536) (w:World) :
 Calls Tryz.prog 322 #[.int .i64 (n:Nat)] w fun e w'=>∃ r v,e=.returned (.pointer (some ⟨r,0,none⟩))∧RefAt w' w.heap.size r v (List.replicate n 0) 0∧Keep [] w w':=by
 have hT:=ZE (n:Nat) 0 65536 true (by simp;omega) w
 go_enter Tryz.func322,Tryz.ntmps322
 go_wp2_with (first
  | (refine hT.mono ?_;clear hT;rintro e w' ⟨rfl,rfl⟩)
  | (at_make;refine elem8.wp_make rfl _ _ rfl .i64 .i64 n n n rfl rfl rfl rfl (by omega) (by omega) ?_))
 go_ret
 have hb:=Blk.new (w.alloc (.cells (Array.replicate n (.int .u8 0)) 5)) 325 #[.slice (some ⟨w.heap.size,0,none⟩) n n,.int .i64 0]
 rw[show (w.alloc (.cells (Array.replicate n (.int .u8 0)) 5)).heap.size=w.heap.size+1 by simp] at hb
 have ho:(w.alloc (.cells (Array.replicate n (.int .u8 0)) 5)).ownsRow w.heap.size 5 1 (.slice (some ⟨w.heap.size,0,none⟩) n n) n (bys (List.replicate n 0)):=
  VM (Blk.new w 5 (Array.replicate n (.int .u8 0))) (Nat.le_refl _) (by omega) (by simp) (by simp[bys,by8])
 exact⟨_,_,rfl,⟨hb,by rw[List.length_replicate];exact YD ho _,by omega,Nat.zero_le _,by simpa using hn⟩,((Keep.refl _ _).alloc _).alloc _⟩
theorem KAx (k:Nat) (hk:k=1∨k=4) (w:World):Calls Tryz.prog 335 #[.int .i64 (k:Nat)] w fun e w'=>e=.returned (.int .i64 ((256 ^ k-1:Nat):Int))∧w=w':=by
 rcases hk with rfl | rfl
 all_goals
  go_enter Tryz.func335,Tryz.ntmps335
  go_wp2
  go_ret
  exact⟨rfl,rfl⟩
theorem QBH (w:World) (base r a:Nat) (v:Value) (bs:List UInt8) (h:RefAt w base r v bs a) (S:Option Addr) (m sc:Nat) (ys:List UInt8) (hr:Rd w S m (bys ys)) (hm:a+m≤bs.length) :
 Calls Tryz.prog 334 #[.pointer (some ⟨r,0,none⟩),.slice S m sc] w fun e w'=>e=.returned (.bool true)∧RefAt w' base r v (laid bs a ys) (a+m)∧Keep (r :: v.ownBlock.toList) w w':=by
 obtain⟨A,c,rfl,hc,hc63,_⟩:=QB h.own
 have h0:=h.c0
 have h1:=h.c1
 have hfew:=h.few
 have hd:=h.drew
 have hl:ys.length=m:=by simpa using hr.1
 obtain⟨n,hn⟩:∃ n,n=bs.length:=⟨_,rfl⟩
 rw[← hn] at h0 hm hc hfew
 have HN:=ZB hn
 have HL:=ZB hl
 have han:a≤n:=by omega
 have hs:IntKind.i64.wrap ((n:Nat)-(a:Nat):Int)=(n:Nat)-(a:Nat):=by rw[IntKind.wrap_i64];omega
 clear hn hl
 go_enter Tryz.func334,Tryz.ntmps334
 go_wp2
 refine ZT (fun w'=>w'.cell? ⟨r,0,none⟩=some (.slice A n c)∧w'.cell? ⟨r,1,none⟩=some (.int .i64 a)) 12 [[0,1,2,3,4,5,6,7,8,9,10,11]] ⟨h0,h1⟩ ?_
 simp only[PI]
 iterate 12 (refine ZH ?_;simp only[Act.put,PU])
 refine JB ?_
 clear hs
 go_wp2
 refine ZT (fun w'=>w'.cell? ⟨r,0,none⟩=some (.slice A n c)∧w'.cell? ⟨r,1,none⟩=some (.int .i64 a)) 10 [[0,1,2,3,4,5,6,7,8,9]] ⟨h0,h1⟩ ?_
 simp only[PI]
 iterate 10 (refine ZH ?_;simp only[Act.put,PU])
 refine JB ?_
 refine elem8.wp_copyOwn rfl (.tmp 26) (.tmp 27) (by rfl) base A n c (bys bs) a (by rfl) (by have:=hd.drew.own;rwa [← QA HN] at this) S m sc (bys ys) (by rfl) hr (Ja _) hm ?_
 intro w2 hw2 hk2
 have hnm:r∉(Value.slice A n c).ownBlock.toList:=by have:=hd.not_mem;rwa [← QA HN] at this
 have h1':=(hk2.cell (b:=r) hd.blk.lt hnm 1).trans hd.c1
 have hf':=(hk2.frozen (b:=r) hd.blk.lt hnm 1).trans (hd.blk.frozen 1)
 go_wp2
 all_goals
  go_ret
  try (have h':=h.symm;clear h;subst h')
  have hn:=QA HN
  have hl:=QA HL
  subst hn
  have hlen:(laid bs a ys).length=bs.length:=XF _ _ _ (by omega)
  refine⟨rfl,⟨?_,?_,hd.base,by omega,by omega⟩,?_⟩
  · have:=(hd.drew.blk.keep hk2 hnm).set 1 (.int .i64 ((a+m:Nat)))
    simpa using this
  · rw[hlen,Vu]
    exact own_set hw2 hnm _
  · exact((((Keep.refl [] w).drew.drew).zero).trans hk2 (fun x hx=>.inl (List.mem_cons_of_mem _ hx))).setCell (p:=⟨r,1,none⟩) (.inl List.mem_cons_self) _
end
section
open Go.RowKit
theorem YAk (y:Nat) (hy:y≤9223372036854775807):Value.int .u8 (bits BinOp.and IntKind.i64 ((y:Nat):Int) 255 % 256)=by8 (UInt8.ofNat (y % 256)):=by
 rw[YAs _ (by omega) (by omega)]
 unfold by8
 rw[UInt8.toNat_ofNat']
 congr 1
theorem ZBG (w:World) (base r a k:Nat) (v:Value) (bs:List UInt8) (h:RefAt w base r v bs a) (hk:k=1∨k=4) (A:Option Addr) (m c:Nat) (zs:List Nat) (hr:Rd w A m (ZP zs))
 (hA:∀ p,A=some p→p.block∉r :: v.ownBlock.toList) (hz:∀ z∈zs,z<256 ^ k) (hm0:0<m) (hm:a+k*m≤bs.length) :
 Calls Tryz.prog 270 #[.pointer (some ⟨r,0,none⟩),.int .i64 (k:Nat),.slice A m c] w fun e w'=>e=.returned (.bool true)∧RefAt w' base r v (laid bs a (zs.flatMap (le k))) (a+k*m)∧Keep (r :: v.ownBlock.toList) w w':=by
 have hk1:1≤k∧k≤4:=by omega
 have hkm:m≤k*m:=Nat.le_mul_of_pos_left _ (by omega)
 obtain⟨g,gc,rfl,hc⟩:=ZG h.own (by omega)
 have hfew:=h.few
 have hTm:=fun W=>KAx k hk W
 obtain⟨M,hM⟩:∃ M:Nat,M=256 ^ k-1:=⟨_,rfl⟩
 have hTw:=fun(z:Nat) (hz:z<256 ^ k) W=>ZE (z:Nat) 0 (M:Nat) true (by rw[decide_eq_true_eq,hM];generalize 256 ^ k=y at *;omega) W
 rw[← hM] at hTm
 obtain⟨n,hn⟩:∃ n,n=bs.length:=⟨_,rfl⟩
 rw[← hn] at hm hc hfew
 have h0:=h.c0
 have h1:=h.c1
 rw[← hn] at h0
 have HN:=ZB hn
 have hl:zs.length=m:=by simpa using hr.1
 have hmk:IntKind.i64.wrap (((m:Nat):Int)*(k:Nat))=((k*m:Nat):Int):=by
  rw[← Int.natCast_mul,IntKind.wrap_i64,Nat.mul_comm m k];generalize k*m=y at *;omega
 obtain⟨T,hTT⟩:∃ T,T=k*m:=⟨_,rfl⟩
 rw[← hTT] at hmk hm hkm
 have hs:IntKind.i64.wrap ((n:Nat)-(a:Nat):Int)=(n:Nat)-(a:Nat):=by rw[IntKind.wrap_i64];omega
 have HL:=ZB hl
 have HTT:=ZB hTT
 have HM:=ZB hM
 clear hk hn hl hTT hM
 have hm63:m≤65536:=by omega
 have hle:=h.le
 rw[← QA HN] at hle
 have hd1:decide (((M:Nat):Int)<0)=false:=by rw[decide_eq_false_iff_not];omega
 have hd2:decide (n<m)=false:=by rw[decide_eq_false_iff_not];omega
 go_enter Tryz.func270,Tryz.ntmps270
 go_wp2_with (refine(hTm _).mono ?_;clear hTm;rintro e w' ⟨rfl,rfl⟩)
 refine ZT (fun w'=>w'.cell? ⟨r,0,none⟩=some (.slice (some ⟨g,0,none⟩) n gc)∧w'.cell? ⟨r,1,none⟩=some (.int .i64 a)) 27 [[0,1,2,3,4,5,6,7,8,9,10,11,12,13,14,15,16,17,18,19,20,21,22,23,24,25,26]] ⟨h0,h1⟩ ?_
 simp only[PI]
 iterate 27 (refine ZH ?_;simp only[Act.put,PU])
 refine JB ?_
 clear hs hmk
 go_wp2
 go_loop [8] (fun i=>∃ j:Nat,j≤m∧i=.int .i64 j) (fun i=>m-(intOf i).toNat)
 case atStart=>exact⟨0,Nat.zero_le _,rfl⟩
 case round=>
  obtain⟨j,hj,rfl⟩:=hrel
  by_cases hlt:j<m
  · obtain⟨b,o,u,rfl,hx,hb,hcx⟩:=hr.at_ hlt
    have hjl:j<zs.length:=by rw[QA HL];exact hlt
    simp only[ZP,List.getElem?_map,List.getElem?_eq_getElem hjl,Option.map_some,Option.some.injEq] at hx
    subst hx
    have hzj:=hz _ (List.getElem_mem hjl)
    generalize zs[j]=z at *
    have hTz:=hTw z hzj w.drew
    have HZ:=ZB hzj
    clear hzj
    go_wp2_with (refine hTz.mono ?_;clear hTz;rintro e w' ⟨rfl,rfl⟩)
    go_round
    case rel=>exact⟨j+1,by omega,by go_num⟩
    case measure=>simp[intOf];omega
  · obtain rfl:m=j:=by omega
    clear hTw hd1 hd2
    go_wp2
    obtain⟨L,hL⟩:∃ L,L=r :: (Value.slice (some ⟨g,0,none⟩) bs.length gc).ownBlock.toList:=⟨_,rfl⟩
    have hgL:g∈L:=by rw[hL];simp[Value.ownBlock]
    have hrL:r∈L:=by rw[hL];simp
    rw[← hL] at hA
    have HLL:=ZB hL
    clear hL
    go_loopw [9] (fun i wr=>∃ j:Nat,j≤m∧i=.int .i64 j∧RefAt wr base r (.slice (some ⟨g,0,none⟩) bs.length gc) (laid bs a ((zs.take j).flatMap (le k))) (a+k*j)∧Keep L w wr) (fun i _=>m-(intOf i).toNat)
    case atStart=>exact⟨0,Nat.zero_le _,rfl,by simpa using h.drew,(Keep.refl _ _).drew⟩
    case round=>
     obtain⟨j,hj,rfl,hR,hkp⟩:=hrel
     by_cases hlt:j<m
     · obtain⟨b,o,u,rfl,hx,hb,hcx⟩:=hr.at_ hlt
       have hbL:b∉L:=hA _ rfl
       replace hcx:=(hkp.cell hb hbL (o+j)).trans hcx
       have hjl:j<zs.length:=by rw[QA HL];exact hlt
       simp only[ZP,List.getElem?_map,List.getElem?_eq_getElem hjl,Option.map_some,Option.some.injEq] at hx
       subst hx
       have hzj:=hz _ (List.getElem_mem hjl)
       have hfl:((zs.take j).flatMap (le k)).length=k*j:=by rw[QH,List.length_take];congr 1;omega
       have hfs:(zs.take (j+1)).flatMap (le k)=(zs.take j).flatMap (le k)++le k zs[j]:=by rw[List.take_succ_eq_append_getElem hjl,List.flatMap_append];simp
       have hkj:k*j+k≤k*m:=by rw[← Nat.mul_succ];exact Nat.mul_le_mul_left _ hlt
       have hmn:a+k*m≤n:=by rw[← QA HTT];exact hm
       have hbn:=QA HN
       generalize zs[j]=z at *
       have hz4:z<256 ^ 4:=Nat.lt_of_lt_of_le hzj (Nat.pow_le_pow_right (by omega) hk1.2)
       obtain⟨t,ht⟩:∃ t,t=a+k*j:=⟨_,rfl⟩
       obtain⟨F,hF⟩:∃ F,F=(zs.take j).flatMap (le k):=⟨_,rfl⟩
       rw[← hF] at hR hfl hfs
       rw[← ht] at hR
       have htn:t+k≤n:=by omega
       have hFl:a+F.length=t:=by omega
       have hz63:z≤9223372036854775807:=by omega
       have hown:=hR.own
       have hll:(laid bs a F).length=bs.length:=XF _ _ _ (by omega)
       rw[hll] at hown
       have hblk:=hR.blk
       have HFS:=ZB hfs
       have HT:=ZB ht
       have HFL:=ZB hFl
       have HZ6:=ZB hz63
       have HBN:=ZB hbn
       have HFK:=ZB hfl
       rw[← hbn] at hown hblk
       clear hfs ht hFl hz63 hz4 hzj hF hll hkj hmn hbn hfl hR
       go_wp2
       go_loopw [10,11] (fun x i wi=>∃ q:Nat,q≤k∧i=.int .i64 q∧x=.int .i64 ((z / 256 ^ q:Nat):Int)∧Blk wi r 325 #[.slice (some ⟨g,0,none⟩) n gc,.int .i64 ((t+q:Nat):Int)]∧wi.ownsRow base 5 1 (.slice (some ⟨g,0,none⟩) n gc) n (bys (laid bs a (F++le q z)))∧Keep L w wi) (fun _ i _=>k-(intOf i).toNat)
       case atStart=>exact⟨0,Nat.zero_le _,rfl,by simp,by simpa using hblk,by simpa using hown,hkp⟩
       case round=>
        clear hblk hown hcx hkp
        obtain⟨q,hq,rfl,rfl,hblk,hown,hkp⟩:=hrel
        have h0:wr.cell? ⟨r,0,none⟩=some (.slice (some ⟨g,0,none⟩) n gc):=by simpa using hblk.cell 0
        have h1:wr.cell? ⟨r,1,none⟩=some (.int .i64 ((t+q:Nat):Int)):=by simpa using hblk.cell 1
        have hf1:=hblk.frozen 1
        by_cases hq4:q<k
        · have hbl:(bys (laid bs a (F++le q z))).length=n:=by
           rw[length_bys,XF _ _ _ (by rw[List.length_append,length_le];have:=QA HFL;have:=QA HBN;omega)];exact(QA HBN).symm
          have hcell:wr.cell? ⟨g,t+q,none⟩=some ((bys (laid bs a (F++le q z)))[t+q]'(by rw[hbl];omega)):=QK hown (List.getElem?_eq_getElem _)
          have hfz:=XJ hown (t+q)
          generalize (bys (laid bs a (F++le q z)))[t+q]'_=u at hcell
          have hs1:IntKind.i64.wrap ((t:Nat)+(q:Nat):Int)=(t:Nat)+(q:Nat):=by rw[IntKind.wrap_i64];omega
          have hb0:(0:Int)≤(t:Nat)+(q:Nat):=by omega
          have hb1:((t:Nat):Int)+(q:Nat)<(n:Nat):=by omega
          have hb2:(((t:Nat):Int)+(q:Nat)).toNat=t+q:=by omega
          have hb3:t+q<n:=by omega
          have hrl:=hblk.lt
          have hyl:z / 256 ^ q≤z:=Nat.div_le_self _ _
          have hby:=YAk (z / 256 ^ q) (by have:=QA HZ6;omega)
          have hds:z / 256 ^ q / 256=z / 256 ^ (q+1):=by rw[Nat.div_div_eq_div_mul,Nat.pow_succ]
          have hdi:((z / 256 ^ q:Nat):Int) / 256=((z / 256 ^ (q+1):Nat):Int):=by rw[← hds];omega
          have HDI:=ZB hdi
          have HBY:=ZB hby
          have hrg:r≠g:=fun e=>own_blk_ne hown hblk (by decide) (by simp[Value.ownBlock,e])
          have HBL:=ZB hbl
          clear hbl hds hdi hby hyl
          generalize hyq:z / 256 ^ q=y at *
          have HYQ:=ZB hyq
          clear hyq
          go_wp2
          refine ZT (fun w'=>w'.cell? ⟨r,0,none⟩=some (.slice (some ⟨g,0,none⟩) n gc)∧w'.cell? ⟨r,1,none⟩=some (.int .i64 ((t+q:Nat):Int))) 11 [[0,1,2,3,4,5,6,7,8,9,10]] ⟨h0,h1⟩ ?_
          simp only[PI]
          iterate 11 (refine ZH ?_;simp only[Act.put,PU])
          refine JB ?_
          clear hs1 hb2
          go_wp2
          have hFL:=QA HFL
          have hBN:=QA HBN
          go_roundw
          case rel=>
           refine⟨q+1,by omega,by go_num,by rw[QA HDI],?_,?_,((hkp.setCell (p:=⟨g,t+q,none⟩) (.inl hgL) _).setCell (p:=⟨r,1,none⟩) (.inl hrL) _).drew⟩
           · have:=(((hblk.far (p:=⟨g,t+q,none⟩) hrg (.int .u8 (bits BinOp.and IntKind.i64 ((y:Nat):Int) 255 % 256))).set 1 (.int .i64 ((t+(q+1):Nat):Int))).drew)
             simpa [Int.add_assoc] using this
           · rw[QA HBY,le_succ,← List.append_assoc,QA HYQ]
             have h2:=Kv hown (by rw[List.length_append,length_le];omega) (UInt8.ofNat (y % 256)) (t+q) (by rw[List.length_append,length_le];omega)
             exact ZA (own_set h2 (by simpa [Value.ownBlock] using hrg) _) (Keep.refl _ _).drew
          case measure=>simp[intOf];omega
        · obtain rfl:k=q:=by omega
          go_wp2
          have hnm:r∉(Value.slice (some ⟨g,0,none⟩) n gc).ownBlock.toList:=fun hm=>own_blk_ne hown hblk (by decide) (by simpa using hm)
          have hFL:=QA HFL
          have hFK:=QA HFK
          have hBN:=QA HBN
          have hT:=QA HT
          have hFS:=QA HFS
          subst hBN
          have hll:(laid bs a (F++le k z)).length=bs.length:=XF _ _ _ (by rw[List.length_append,length_le];omega)
          go_roundw
          case rel=>
           refine⟨j+1,by omega,by go_num,?_,hkp⟩
           rw[hFS,show a+k*(j+1)=t+k by rw[Nat.mul_succ];omega]
           exact⟨hblk,by rw[hll];exact hown,h.base,by omega,by omega⟩
          case measure=>simp[intOf];omega
     · obtain rfl:m=j:=by omega
       go_wp2
       go_ret
       rw[List.take_of_length_le (Nat.le_of_eq (QA HL))] at hR
       exact⟨rfl,hR,by rw[← QA HLL];exact hkp⟩
end
section
open Go.RowKit
theorem JAb (c:Nat) (h:c<256):((c:Nat):Int)=((BitVec.ofNat 32 c).toNat:Nat):=by
 rw[BitVec.toNat_ofNat,Nat.mod_eq_of_lt (by omega)]
theorem VAa (z:BitVec 32) (c:Nat) (h:c<256) :
 (bits BinOp.and IntKind.u32 (bits BinOp.xor IntKind.u32 (z.toNat:Nat) ((c:Nat):Int)) 1 == 1)=decide ((z ^^^ BitVec.ofNat 32 c) &&& 1#32=1#32):=by
 rw[JAb c h,Yu,show (1:Int)=((1#32:BitVec 32).toNat:Nat) by rfl,YAd]
 rw[Bool.eq_iff_iff,beq_iff_eq,decide_eq_true_eq]
 rw[Int.natCast_inj,BitVec.toNat_inj]
theorem XBG (A:Option Addr) (n c:Nat) (bs:List UInt8) (w:World) (ha:Rd w A n (bys bs)) (hn:n≤9223372036854775807) :
 Calls Tryz.prog 336 #[.int .i64 0,.slice A n c] w fun e w'=>e=.returned (.int .i64 (ZQ bs:Nat))∧w=w':=by
 have hl:bs.length=n:=by simpa using ha.1
 have HL:=ZB hl
 clear hl
 have hT:=YAG 0 4294967296 w (by omega) (by omega)
 simp only[Int.zero_emod] at hT
 go_enter Tryz.func336,Tryz.ntmps336
 go_wp2_with (refine hT.mono ?_;clear hT;rintro e w' ⟨rfl,rfl⟩)
 go_loop [5,6] (fun v i=>∃ k:Nat,k≤n∧i=.int .i64 k∧v=.int .u32 ((QL 0xFFFFFFFF#32 (bs.take k)).toNat:Nat)) (fun _ i=>n-(intOf i).toNat)
 case atStart=>exact⟨0,Nat.zero_le _,rfl,rfl⟩
 case round=>
  obtain⟨k,hk,rfl,rfl⟩:=hrel
  by_cases hlt:k<n
  · obtain⟨b,o,u,rfl,hx,hb,hc⟩:=ha.at_ hlt
    have hbk:k<bs.length:=by rw[QA HL];exact hlt
    rw[Xv _ _ hbk,Option.some.injEq] at hx
    subst hx
    have hsn:QL 0xFFFFFFFF#32 (bs.take (k+1))=JO (QL 0xFFFFFFFF#32 (bs.take k)) bs[k] 8:=by rw[List.take_succ_eq_append_getElem hbk,Kn]
    have HS:=ZB hsn
    clear hsn
    generalize QL 0xFFFFFFFF#32 (bs.take k)=y at *
    generalize bs[k]=cc at *
    have hc8:=cc.toNat_lt
    unfold by8 at hc
    go_wp2
    go_loop [5,7,8,9] (fun v x i _=>∃ m:Nat,m≤8∧i=.int .i64 m∧x=.int .u32 ((cc.toNat / 2 ^ m:Nat):Int)∧v=.int .u32 ((JO y cc m).toNat:Nat)) (fun _ _ i _=>8-(intOf i).toNat)
    case atStart=>exact⟨0,Nat.zero_le _,rfl,by simp,rfl⟩
    case round=>
     obtain⟨m,hm,rfl,rfl,rfl⟩:=hrel
     by_cases hm8:m<8
     · have hs2:=Vh y cc m
       have hcm:cc.toNat / 2 ^ m≤cc.toNat:=Nat.div_le_self _ _
       have hcd:((cc.toNat / 2 ^ m:Nat):Int) / 2=((cc.toNat / 2 ^ (m+1):Nat):Int):=by
        rw[Nat.pow_succ,← Nat.div_div_eq_div_mul];omega
       have HS2:=ZB hs2
       have HCD:=ZB hcd
       have hT:=VAa (JO y cc m) (cc.toNat / 2 ^ m) (by omega)
       clear hs2 hcd
       generalize JO y cc m=z at *
       generalize cc.toNat / 2 ^ m=q at *
       by_cases hb:(z ^^^ BitVec.ofNat 32 q) &&& 1#32=1#32
       · rw[decide_eq_true hb] at hT
         have HB:=ZB hb
         clear hb
         go_wp2
         go_round
         case rel=>exact⟨m+1,by omega,by go_num,by rw[QA HCD],by rw[QA HS2,Qr,if_pos (QA HB),XAH]⟩
         case measure=>simp[intOf];omega
       · rw[decide_eq_false hb] at hT
         have HB:=ZB hb
         clear hb
         go_wp2
         go_round
         case rel=>exact⟨m+1,by omega,by go_num,by rw[QA HCD],by rw[QA HS2,Qr,if_neg (QA HB),Qv]⟩
         case measure=>simp[intOf];omega
     · obtain rfl:m=8:=by omega
       go_wp2
       go_round
       case rel=>exact⟨k+1,by omega,by go_num,by rw[QA HS]⟩
       case measure=>simp[intOf];omega
  · obtain rfl:k=n:=by omega
    go_wp2
    go_ret
    exact⟨VI (by rw[List.take_of_length_le (Nat.le_of_eq (QA HL))];exact KAd _),rfl⟩
theorem VBG (A:Option Addr) (n c:Nat) (bs:List UInt8) (w:World) (ha:Rd w A n (bys bs)) (hn:n≤9223372036854775807) :
 Calls Tryz.prog 273 #[.slice A n c] w fun e w'=>e=.returned (.int .i64 (ZQ bs:Nat))∧w=w':=by
 have hT:=XBG A n c bs w ha hn
 go_enter Tryz.func273,Tryz.ntmps273
 go_wp2_with (refine hT.mono ?_;clear hT;rintro e w' ⟨rfl,rfl⟩)
 go_ret
 exact⟨rfl,rfl⟩
theorem ZBH {w1 W0:World} (base r a k z:Nat) (v:Value) (bs:List UInt8) (h:RefAt W0 base r v bs a) (hk:k=1∨k=4) (hz:z<256 ^ k) (hm:a+k≤bs.length) (hK:Keep [] w1 W0) (hb:base=w1.heap.size) :
 Calls Tryz.prog 271 #[.pointer (some ⟨r,0,none⟩),.int .i64 (k:Nat),.int .i64 (z:Nat)] W0 fun e w'=>e=.returned (.tuple #[])∧RefAt w' base r v (laid bs a (le k z)) (a+k)∧Keep [] w1 w':=by
 have hka:=hK.alloc (.cells #[.int .i64 (z:Nat)] 3)
 have hRA:RefAt (W0.alloc (.cells #[.int .i64 (z:Nat)] 3)) base r v bs a:=h.keep0 ((Keep.refl _ _).alloc _)
 have hT:=ZBG (W0.alloc (.cells #[.int .i64 (z:Nat)] 3)) base r a k v bs hRA hk (some ⟨W0.heap.size,0,none⟩) 1 1 [z] (KO _ _ _) (fun p hp=>by
  cases hp
  intro hx
  rcases List.mem_cons.1 hx with e | hx
  · exact absurd (show W0.heap.size=r from e) (Nat.ne_of_gt h.blk.lt)
  · exact absurd (own_mem h.own hx).2 (Nat.lt_irrefl _)) (by simpa using hz) (by omega) (by omega)
 go_enter Tryz.func271,Tryz.ntmps271
 go_wp2_with (refine hT.mono ?_;clear hT;rintro e w' ⟨rfl,h1,h2⟩)
 go_end0
 subst hb
 exact⟨rfl,by simpa using h1,hka.trans h2 (fun x hx=>.inr (hRA.fresh x hx))⟩
end
section
open Go.RowKit
def QR (x:Int) (n:Nat):List UInt8:=(List.range n).map fun k=>UInt8.ofNat (((x % 256).toNat+k) % 256)
def Zl (x:Int):List UInt8:=QR x 64
theorem JAE (x:Int) (n:Nat):QR x (n+1)=QR x n++[UInt8.ofNat (((x % 256).toNat+n) % 256)]:=by simp[QR,List.range_succ]
@[simp] theorem length_fillUp (x:Int) (n:Nat):(QR x n).length=n:=by simp[QR]
@[simp] theorem length_fillOf (x:Int):(Zl x).length=64:=by simp[Zl]
theorem Yi (x:Int) (w:World):Calls Tryz.prog 13 #[.int .i64 x] w fun r w'=>∃ u,r=.returned u∧w'.ownsRow w.heap.size 5 1 u 64 (bys (Zl x))∧Keep [] w w':=by
 have hmk:∀ W:World,(Instr.makeSlice 39 (.int .i64 64) (.int .i64 64)).run Tryz.prog W=.ok (.slice (some ⟨W.heap.size,0,none⟩) 64 64) (W.alloc (.cells (Array.replicate 64 (.int .u8 0)) 5)):=fun W=>elem8.run_make .i64 .i64 64 64 (by omega) (by omega) (by omega) W
 have h0:(w.alloc (.cells (Array.replicate 64 (.int .u8 0)) 5)).ownsRow w.heap.size 5 1 (.slice (some ⟨w.heap.size,0,none⟩) 64 64) 64 (bys (laid (List.replicate 64 0) 0 (QR x 0))):=
  VM (Blk.new w 5 _) (Nat.le_refl _) (by omega) (by simp) (by simp[QR,bys,by8,laid])
 obtain⟨y,hy,hy0,hy1⟩:∃ y:Nat,x % 256=(y:Int)∧0≤y∧y<256:=⟨(x % 256).toNat,by omega,by omega,by omega⟩
 have HR:=fun W=>QP x 256 W (by omega) (by omega)
 rw[hy] at HR
 have HY:=ZB hy
 clear hy
 have hmk0:=hmk w
 go_enter Tryz.func13,Tryz.ntmps13
 go_wp2
 clear hmk hmk0
 go_loopw [4] (fun i wr=>∃ k:Nat,k≤64∧i=.int .i64 k∧wr.ownsRow w.heap.size 5 1 (.slice (some ⟨w.heap.size,0,none⟩) 64 64) 64 (bys (laid (List.replicate 64 0) 0 (QR x k)))∧Keep [] w wr) (fun i _=>(64-(intOf i)).toNat)
 case atStart=>exact⟨0,by omega,rfl,h0,(Keep.refl _ _).alloc _⟩
 case round=>
  obtain⟨k,hk,rfl,hown,hkp⟩:=hrel
  by_cases hlt:k<64
  · have hT:=HR wr
    have HR2:=fun W=>QP ((y:Nat)+(k:Nat)) 256 W (by omega) (by omega)
    have hll:(bys (laid (List.replicate 64 (0:UInt8)) 0 (QR x k))).length=64:=by rw[length_bys,XF _ _ _ (by simp;omega)];simp
    have hcell:wr.cell? ⟨w.heap.size,k,none⟩=some ((bys (laid (List.replicate 64 (0:UInt8)) 0 (QR x k)))[k]'(by rw[hll];exact hlt)):=QK hown (List.getElem?_eq_getElem _)
    have hfz:=XJ hown k
    generalize (bys (laid (List.replicate 64 (0:UInt8)) 0 (QR x k)))[k]'_=u at hcell
    have HLL:=ZB hll
    clear hll
    go_wp2_with (first
     | (refine hT.mono ?_;clear hT;rintro e w' ⟨rfl,rfl⟩)
     | (refine(HR2 _).mono ?_;clear HR2;rintro e w' ⟨rfl,rfl⟩))
    go_roundw
    case rel=>
     refine⟨k+1,by omega,by go_num,?_,hkp.setCell (p:=⟨w.heap.size,k,none⟩) (.inr (Nat.le_refl _)) _⟩
     rw[JAE]
     have h1:=Kv hown (by simp;omega) (UInt8.ofNat (((x % 256).toNat+k) % 256)) k (by simp)
     have h2:by8 (UInt8.ofNat (((x % 256).toNat+k) % 256))=.int .u8 ((((y:Nat):Int)+(k:Nat)) % 256):=by
      rw[QA HY]
      unfold by8
      rw[UInt8.toNat_ofNat']
      congr 1
      omega
     rw[h2] at h1
     first | exact h1 | simpa using h1
    case measure=>simp[intOf];omega
  · obtain rfl:k=64:=by omega
    go_wp2
    go_ret
    refine⟨_,rfl,?_,hkp⟩
    rw[ZAL _ _ (by simp)] at hown
    exact hown
end
section
open Go.RowKit
end
end Go.Proofs.YthgphmfipnjllaaGreat
