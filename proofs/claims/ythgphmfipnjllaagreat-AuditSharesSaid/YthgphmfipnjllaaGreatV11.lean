/- Lemmas of the proof, with their conditions. -/
import Derived.Test.YthgphmfipnjllaaGreatV03
namespace Go.Proofs.YthgphmfipnjllaaGreat
set_option linter.unusedSimpArgs false
set_option linter.unusedVariables false
set_option maxHeartbeats 4000000
set_option maxRecDepth 20000
section
open Go.RowKit
structure RowAt (w:World) (base r:Nat) (v:Value) (bs:List UInt8) (a:Nat):Prop where
 blk:Blk w r 392 #[v,.int .i64 a]
 own:w.ownsRow base 5 1 v bs.length (bys bs)
 base:base≤r
 le:a≤bs.length
 few:bs.length≤65536
namespace RowAt
variable {w w':World} {base r a:Nat} {v:Value} {bs:List UInt8}
theorem keep0 (h:RowAt w base r v bs a) (hk:Keep [] w w'):RowAt w' base r v bs a:=⟨h.blk.keep0 hk,ZA h.own hk,h.base,h.le,h.few⟩
theorem drew (h:RowAt w base r v bs a):RowAt w.drew base r v bs a:=h.keep0 (Keep.refl _ _).drew
theorem not_mem (h:RowAt w base r v bs a):r∉v.ownBlock.toList:=fun hm=>own_blk_ne h.own h.blk (by decide) (by simpa using hm)
theorem c0 (h:RowAt w base r v bs a):w.cell? ⟨r,0,none⟩=some v:=by simpa using h.blk.cell 0
theorem c1 (h:RowAt w base r v bs a):w.cell? ⟨r,1,none⟩=some (.int .i64 a):=by simpa using h.blk.cell 1
theorem fresh (h:RowAt w base r v bs a):∀ x∈r :: v.ownBlock.toList,base≤x:=fun x hx=>by
 rcases List.mem_cons.1 hx with rfl | hx
 · exact h.base
 · exact(own_mem h.own hx).1
theorem move (h:RowAt w base r v bs a) (b:Nat) (hb:b≤bs.length):RowAt (w.setCell ⟨r,1,none⟩ (.int .i64 b)) base r v bs b:=
 ⟨by have:=h.blk.set 1 (.int .i64 b);simpa using this,own_set h.own h.not_mem _,h.base,hb,h.few⟩
end RowAt
theorem XAY (n:Nat) (hn:n≤65536) (w:World) :
 Calls Tryz.prog 289 #[.int .i64 (n:Nat)] w fun e w'=>∃ r v,e=.returned (.pointer (some ⟨r,0,none⟩))∧RowAt w' w.heap.size r v (List.replicate n 0) 0∧Keep [] w w':=by
 go_enter Tryz.func289,Tryz.ntmps289
 go_wp2_with (at_make;refine elem8.wp_make rfl _ _ rfl .i64 .i64 n n n rfl rfl rfl rfl (by omega) (by omega) ?_)
 go_ret
 have hb:=Blk.new (w.alloc (.cells (Array.replicate n (.int .u8 0)) 5)) 392 #[.slice (some ⟨w.heap.size,0,none⟩) n n,.int .i64 0]
 rw[show (w.alloc (.cells (Array.replicate n (.int .u8 0)) 5)).heap.size=w.heap.size+1 by simp] at hb
 have ho:(w.alloc (.cells (Array.replicate n (.int .u8 0)) 5)).ownsRow w.heap.size 5 1 (.slice (some ⟨w.heap.size,0,none⟩) n n) n (bys (List.replicate n 0)):=
  VM (Blk.new w 5 (Array.replicate n (.int .u8 0))) (Nat.le_refl _) (by omega) (by simp) (by simp[bys,by8])
 exact⟨_,_,rfl,⟨hb,by rw[List.length_replicate];exact YD ho _,by omega,Nat.zero_le _,by simpa using hn⟩,((Keep.refl _ _).alloc _).alloc _⟩
theorem YU (A:Option Addr) (n c:Nat) (bs:List UInt8) (w:World) (ha:Rd w A n (bys bs)) (hn:n≤65536) :
 Calls Tryz.prog 306 #[.slice A n c] w fun e w'=>∃ r v,e=.returned (.pointer (some ⟨r,0,none⟩))∧RowAt w' w.heap.size r v bs 0∧Keep [] w w':=by
 have hl:bs.length=n:=by simpa using ha.1
 have hT:=XR A n c bs w ha (by omega)
 have HL:=ZB hl
 clear hl
 go_enter Tryz.func306,Tryz.ntmps306
 go_wp2_with (refine hT.mono ?_;clear hT;rintro e w' ⟨v,rfl,hv,hk,_⟩;obtain⟨VA,vc,rfl,_⟩:=QB hv)
 go_ret
 have h1:=hk.size
 have hl:=QA HL
 subst hl
 exact⟨_,_,rfl,⟨Blk.new _ _ _,YD hv _,h1,Nat.zero_le _,by omega⟩,hk.alloc _⟩
theorem Vc (w:World) (base r a:Nat) (v:Value) (bs:List UInt8) (h:RowAt w base r v bs a) :
 Calls Tryz.prog 352 #[.pointer (some ⟨r,0,none⟩)] w fun e w'=>e=.returned (.int .i64 ((bs.length:Nat)-(a:Nat):Int))∧w.drew=w':=by
 obtain⟨A,c,rfl,_⟩:=QB h.own
 have h0:=h.c0
 have h1:=h.c1
 have hle:=h.le
 have hfew:=h.few
 go_enter Tryz.func352,Tryz.ntmps352
 go_wp2
 refine ZT (fun w'=>w'.cell? ⟨r,0,none⟩=some (.slice A bs.length c)∧w'.cell? ⟨r,1,none⟩=some (.int .i64 a)) 9 [[0,1,2,3,4,5,6,7,8]] ⟨h0,h1⟩ ?_
 simp only[PI]
 iterate 9 (refine ZH ?_;simp only[Act.put,PU])
 refine JB ?_
 go_wp2
 go_ret
 exact⟨rfl,rfl⟩
theorem ZAK (k:Nat) (hk:k=1∨k=2∨k=4) (w:World):Calls Tryz.prog 351 #[.int .i64 (k:Nat)] w fun e w'=>e=.returned (.bool true)∧w=w':=by
 rcases hk with rfl | rfl | rfl
 all_goals
  go_enter Tryz.func351,Tryz.ntmps351
  go_wp2
  go_ret
  exact⟨rfl,rfl⟩
theorem Qz (w:World) (base r a:Nat) (v:Value) (bs:List UInt8) (h:RowAt w base r v bs a) :
 Calls Tryz.prog 292 #[.pointer (some ⟨r,0,none⟩)] w fun e w'=>∃ u,e=.returned u∧w'.ownsRow w.heap.size 5 1 u bs.length (bys bs)∧Keep [] w w':=by
 obtain⟨A,c,rfl,_⟩:=QB h.own
 have h0:=h.c0
 have hfew:=h.few
 have hT:=XR A bs.length c bs w (Rd.of_own h.own) (by omega)
 go_enter Tryz.func292,Tryz.ntmps292
 go_wp2_with (refine hT.mono ?_;clear hT;rintro e w' ⟨v,rfl,hv,hk,_⟩)
 go_ret
 exact⟨_,rfl,hv,hk⟩
end
section
open Go.RowKit
theorem YN (w:World) (base r a m:Nat) (v:Value) (bs:List UInt8) (h:RowAt w base r v bs a) (hm:a+m≤bs.length) :
 Calls Tryz.prog 345 #[.pointer (some ⟨r,0,none⟩),.int .i64 (m:Nat)] w fun e w'=>∃ u,e=.returned (.tuple #[u,.bool true])∧w'.ownsRow w.heap.size 5 1 u m (bys ((bs.drop a).take m))∧RowAt w' base r v bs (a+m)∧Keep [r] w w':=by
 obtain⟨A,c,rfl,hc,hc63,_⟩:=QB h.own
 have h0:=h.c0
 have h1:=h.c1
 have hfew:=h.few
 have hrl:=h.blk.lt
 have hT:=Vc w base r a _ bs h
 have hd:=h.drew
 have hcut:=((Rd.of_own hd.own).cutA (k:=a) (cap:=c) (by omega) hc).take (k:=m) (by omega)
 rw[Yb,YO] at hcut
 have hT2:=fun W (hk:Keep [] w.drew W)=>XR (cutA A a c) m (c-a) _ W (hcut.keep hk) (by omega)
 obtain⟨n,hn⟩:∃ n,n=bs.length:=⟨_,rfl⟩
 rw[← hn] at h0 hT hm hc hfew
 have HN:=ZB hn
 have hrun:=elem8.run_lh A n c .i64 .i64 (a:Nat) ((a:Nat)+(m:Nat):Int) (by omega) (by omega) (by omega)
 rw[show ((a:Nat)+(m:Nat):Int).toNat-((a:Nat):Int).toNat=m by omega,Int.toNat_natCast] at hrun
 have HR:=ZB hrun
 have hsum:IntKind.i64.wrap ((a:Nat)+(m:Nat):Int)=(a:Nat)+(m:Nat):=by rw[IntKind.wrap_i64];omega
 clear hn hrun
 go_enter Tryz.func345,Tryz.ntmps345
 go_wp2_with (refine hT.mono ?_;clear hT;rintro e w' ⟨rfl,rfl⟩)
 refine ZT (fun w'=>w'.cell? ⟨r,0,none⟩=some (.slice A n c)∧w'.cell? ⟨r,1,none⟩=some (.int .i64 a)) 14 [[0,1,2,3,4,5,6,7,8,9,10,11,12,13]] ⟨h0,h1⟩ ?_
 simp only[PI]
 iterate 14 (refine ZH ?_;simp only[Act.put,PU])
 refine JB ?_
 clear hsum
 go_wp2_with (refine Xa rfl (.tmp 22) (some (.tmp 26)) (some (.tmp 32)) rfl (.slice (cutA A a c) m (c-a)) ?hrun ?_)
 case hrun=>
  intro W
  have h:=QA HR W
  exact h
 have hT3:=hT2 w.drew.drew (Keep.refl _ _).drew
 go_wp2_with (refine hT3.mono ?_;clear hT3;rintro e w2 ⟨u,rfl,hu,hk,_⟩;have h1':=(hk.cell (b:=r) hrl (by simp) 1).trans h1;have hf':=(hd.keep0 ((Keep.refl _ _).drew.trans0 hk)).blk.frozen 1)
 go_ret2
 have hn:=QA HN
 have hh:=((hd.drew).keep0 hk).move (a+m) (by omega)
 rw[hn] at *
 exact⟨_,rfl,own_set hu (fun hm=>by have:=(own_mem hu hm).1;simp at this;omega) _,by simpa using hh,((Keep.refl _ _).drew.drew.trans0 hk).setCell (.inl (by simp)) _⟩
theorem XAx (w:World) (base r a:Nat) (v:Value) (bs:List UInt8) (h:RowAt w base r v bs a) (S:Option Addr) (m sc:Nat) (ys:List UInt8) (hr:Rd w S m (bys ys)) (hm:a+m≤bs.length) :
 Calls Tryz.prog 344 #[.pointer (some ⟨r,0,none⟩),.slice S m sc] w fun e w'=>e=.returned (.bool true)∧RowAt w' base r v (laid bs a ys) (a+m)∧Keep (r :: v.ownBlock.toList) w w':=by
 obtain⟨A,c,rfl,hc,hc63,_⟩:=QB h.own
 have h0:=h.c0
 have h1:=h.c1
 have hfew:=h.few
 have hT:=Vc w base r a _ bs h
 have hd:=h.drew
 have hl:ys.length=m:=by simpa using hr.1
 obtain⟨n,hn⟩:∃ n,n=bs.length:=⟨_,rfl⟩
 rw[← hn] at h0 hT hm hc hfew
 have HN:=ZB hn
 have HL:=ZB hl
 have han:a≤n:=by omega
 have hrun:=elem8.run_l (P:=Tryz.prog) A n c .i64 (a:Nat) (by omega) (by omega)
 rw[Int.toNat_natCast] at hrun
 have HR:=ZB hrun
 clear hn hrun hl
 go_enter Tryz.func344,Tryz.ntmps344
 go_wp2_with (refine hT.mono ?_;clear hT;rintro e w' ⟨rfl,rfl⟩)
 refine ZT (fun w'=>w'.cell? ⟨r,0,none⟩=some (.slice A n c)∧w'.cell? ⟨r,1,none⟩=some (.int .i64 a)) 15 [[0,1,2,3,4,5,6,7,8,9,10,11,12,13],[14]] ⟨h0,h1⟩ ?_
 simp only[PI]
 iterate 14 (refine ZH ?_;simp only[Act.put,PU])
 refine XB (by rfl) (fun K hK=>?_)
 refine elem8.wp1_copyOwn (.tmp 26) (.tmp 27) (by rfl) base A n c (bys bs) a (by rfl) (by have:=hd.own;rwa [← QA HN] at this) S m sc (bys ys) (by rfl) hr (Ja _) hm ?_
 intro w2 hw2 hk2
 have hnm:r∉(Value.slice A n c).ownBlock.toList:=by have:=hd.not_mem;rwa [← QA HN] at this
 have h1':=(hk2.cell (b:=r) hd.blk.lt hnm 1).trans hd.c1
 have h0':=(hk2.cell (b:=r) hd.blk.lt hnm 0).trans h0
 have hf':=(hk2.frozen (b:=r) hd.blk.lt hnm 1).trans (hd.blk.frozen 1)
 refine hK _ _ (⟨h0',h1'⟩) ?_
 clear hK K
 try simp only[Act.put,PU]
 refine JB ?_
 go_wp2
 all_goals
  go_ret
  try (have h':=h.symm;clear h;subst h')
  have hn:=QA HN
  have hl:=QA HL
  subst hn
  have hlen:(laid bs a ys).length=bs.length:=XF _ _ _ (by omega)
  refine⟨rfl,⟨?_,?_,hd.base,by omega,by omega⟩,?_⟩
  · have:=(hd.drew.blk.keep hk2 hnm).set 1 (.int .i64 ((a+m:Nat)))
    simpa using this
  · rw[hlen,Vu]
    exact own_set hw2 hnm _
  · exact((((Keep.refl [] w).drew.drew).zero).trans hk2 (fun x hx=>.inl (List.mem_cons_of_mem _ hx))).setCell (p:=⟨r,1,none⟩) (.inl List.mem_cons_self) _
theorem Zw (w:World) (base r a k:Nat) (v:Value) (bs:List UInt8) (h:RowAt w base r v bs a) (hk:k=1∨k=2∨k=4) (hm:a+k≤bs.length) :
 Calls Tryz.prog 307 #[.pointer (some ⟨r,0,none⟩),.int .i64 (k:Nat)] w fun e w'=>e=.returned (.tuple #[.int .i64 (num ((bs.drop a).take k):Nat),.bool true])∧RowAt w' base r v bs (a+k)∧Keep [r] w w':=by
 have hk1:1≤k∧k≤4:=by omega
 obtain⟨g,c,rfl,hc⟩:=ZG h.own (by omega)
 have hfew:=h.few
 have hT:=Vc w base r a _ bs h
 have hTw:=fun W=>ZAK k hk W
 obtain⟨n,hn⟩:∃ n,n=bs.length:=⟨_,rfl⟩
 rw[← hn] at hT hm hc hfew
 have HN:=ZB hn
 have hdl:(bs.drop a).length=n-a:=by rw[List.length_drop,hn]
 have HD:=ZB hdl
 clear hk hn hdl
 go_enter Tryz.func307,Tryz.ntmps307
 go_wp2_with (first | (refine(hTw _).mono ?_;clear hTw;rintro e w' ⟨rfl,rfl⟩) | (refine hT.mono ?_;clear hT;rintro e w' ⟨rfl,rfl⟩))
 go_loopw [4,6,21] (fun t _ i wr=>∃ m:Nat,m≤k∧i=.int .i64 m∧t=.int .i64 (num ((bs.drop a).take m):Nat)∧∃ d,wr=w.drewN d) (fun _ _ i _=>k-(intOf i).toNat)
 case atStart=>exact⟨0,Nat.zero_le _,rfl,by simp,1,rfl⟩
 case round=>
  obtain⟨m,hm',rfl,rfl,d,rfl⟩:=hrel
  have hd:RowAt (w.drewN d) base r (.slice (some ⟨g,0,none⟩) bs.length c) bs a:=h.keep0 ((Keep.refl _ _).drewN _)
  have h0:=hd.c0
  rw[← QA HN] at h0
  have h1:=hd.c1
  have hf1:=hd.blk.frozen 1
  by_cases hlt:m<k
  · have hml:m<(bs.drop a).length:=by rw[QA HD];omega
    obtain⟨x,hx⟩:∃ x,x=(bs.drop a)[m]:=⟨_,rfl⟩
    have hcx:(w.drewN d).cell? ⟨g,a+m,none⟩=some (.int .u8 (x.toNat:Nat)):=by
     refine QK hd.own (i:=a+m) ?_
     rw[hx,List.getElem_drop]
     exact Xv _ _ (by have:=QA HN;omega)
    have hlen:((bs.drop a).take m).length=m:=by rw[List.length_take,QA HD];omega
    have hnl:=ZBD ((bs.drop a).take m)
    rw[hlen] at hnl
    have hor:=YBF _ m x (by omega) hnl
    have hsn:num ((bs.drop a).take (m+1))=num ((bs.drop a).take m)+256 ^ m*x.toNat:=by
     rw[List.take_succ_eq_append_getElem hml,QAn,hlen,hx]
    have HSN:=ZB hsn
    have HOR:=ZB hor
    have hs1:IntKind.i64.wrap ((a:Nat)+(m:Nat):Int)=(a:Nat)+(m:Nat):=by rw[IntKind.wrap_i64];omega
    have hs2:IntKind.i64.wrap (8*(m:Nat):Int)=8*(m:Nat):=by rw[IntKind.wrap_i64];omega
    have hb0:(0:Int)≤(a:Nat)+(m:Nat):=by omega
    have hb1:((a:Nat):Int)+(m:Nat)<(n:Nat):=by omega
    have hb2:(((a:Nat):Int)+(m:Nat)).toNat=a+m:=by omega
    clear hx hlen hnl hor hsn hml
    generalize num ((bs.drop a).take m)=q at *
    go_wp2
    refine ZT (fun w'=>w'.cell? ⟨r,0,none⟩=some (.slice (some ⟨g,0,none⟩) n c)∧w'.cell? ⟨r,1,none⟩=some (.int .i64 a)∧w'.cell? ⟨g,a+m,none⟩=some (.int .u8 (x.toNat:Nat))) 17 [[0,1,2,3,4,5,6,7,8,9,10,11,12,13,14,15,16]] ⟨h0,h1,hcx⟩ ?_
    simp only[PI]
    iterate 17 (refine ZH ?_;simp only[Act.put,PU])
    refine JB ?_
    clear hs1 hs2 hb2
    go_wp2
    go_roundw
    case rel=>exact⟨m+1,by omega,by go_num,by rw[QA HOR,QA HSN],_,rfl⟩
    case measure=>simp[intOf];omega
  · obtain rfl:k=m:=by omega
    go_wp2
    go_ret2
    have hn:=QA HN
    have hh:=hd.move (a+k) (by omega)
    exact⟨rfl,by simpa using hh,((Keep.refl _ _).drewN _).setCell (p:=⟨r,1,none⟩) (.inl (by simp)) _⟩
end
section
open Go.RowKit
def ZP (zs:List Nat):List Value:=zs.map fun z=>.int .i64 (z:Nat)
@[simp] theorem length_nats (zs:List Nat):(ZP zs).length=zs.length:=by simp[ZP]
theorem QH (k:Nat) (zs:List Nat):(zs.flatMap (le k)).length=k*zs.length:=by
 induction zs with
 | nil=>simp
 | cons z zs ih=>rw[List.flatMap_cons,List.length_append,ih,length_le,List.length_cons,Nat.mul_succ];omega
theorem KAb (w:World) (base r a k:Nat) (v:Value) (bs:List UInt8) (h:RowAt w base r v bs a) (hk:k=1∨k=2∨k=4) (A:Option Addr) (m c:Nat) (zs:List Nat) (hr:Rd w A m (ZP zs))
 (hA:∀ p,A=some p→p.block∉r :: v.ownBlock.toList) (hz:∀ z∈zs,z<256 ^ k) (hm0:0<m) (hm:a+k*m≤bs.length) :
 Calls Tryz.prog 290 #[.pointer (some ⟨r,0,none⟩),.int .i64 (k:Nat),.slice A m c] w fun e w'=>e=.returned (.bool true)∧RowAt w' base r v (laid bs a (zs.flatMap (le k))) (a+k*m)∧Keep (r :: v.ownBlock.toList) w w':=by
 have hk1:1≤k∧k≤4:=by omega
 have hkm:m≤k*m:=Nat.le_mul_of_pos_left _ (by omega)
 obtain⟨g,gc,rfl,hc⟩:=ZG h.own (by omega)
 have hfew:=h.few
 have hT:=Vc w base r a _ bs h
 have hTw:=fun W=>ZAK k hk W
 obtain⟨n,hn⟩:∃ n,n=bs.length:=⟨_,rfl⟩
 rw[← hn] at hT hm hc hfew
 have HN:=ZB hn
 have hl:zs.length=m:=by simpa using hr.1
 have hq:decide ((((n:Nat):Int)-(a:Nat)) / (k:Nat)<(m:Nat))=false:=by
  rw[decide_eq_false_iff_not,Int.not_lt,Int.le_ediv_iff_mul_le (by omega)]
  rw[← Int.natCast_mul,Nat.mul_comm]
  omega
 have HL:=ZB hl
 clear hk hn hl
 have hm63:m≤65536:=by omega
 have hle:=h.le
 rw[← QA HN] at hle
 clear hkm
 have HM:=ZB hm
 clear hm
 go_enter Tryz.func290,Tryz.ntmps290
 go_wp2_with (first | (refine(hTw _).mono ?_;clear hTw;rintro e w' ⟨rfl,rfl⟩) | (refine hT.mono ?_;clear hT;rintro e w' ⟨rfl,rfl⟩))
 go_loop [8,30] (fun _ i=>∃ j:Nat,j≤m∧i=.int .i64 j) (fun _ i=>m-(intOf i).toNat)
 case atStart=>exact⟨0,Nat.zero_le _,rfl⟩
 case round=>
  obtain⟨j,hj,rfl⟩:=hrel
  by_cases hlt:j<m
  · obtain⟨b,o,u,rfl,hx,hb,hcx⟩:=hr.at_ hlt
    have hjl:j<zs.length:=by rw[QA HL];exact hlt
    simp only[ZP,List.getElem?_map,List.getElem?_eq_getElem hjl,Option.map_some,Option.some.injEq] at hx
    subst hx
    have hzj:=hz _ (List.getElem_mem hjl)
    generalize zs[j]=z at *
    have hz8:((((z:Nat):Int) / 2 ^ (8*k)) != 0)=false:=by
     have hp:((2:Int) ^ (8*k))=((256 ^ k:Nat):Int):=by rw[Int.natCast_pow,show ((256:Nat):Int)=2 ^ 8 by rfl,Int.pow_mul]
     rw[hp,← Int.natCast_ediv,Nat.div_eq_of_lt hzj];rfl
    have HZ:=ZB hzj
    clear hzj
    go_wp2
    go_round
    case rel=>exact⟨j+1,by omega,by go_num⟩
    case measure=>simp[intOf];omega
  · obtain rfl:m=j:=by omega
    clear hq
    go_wp2
    obtain⟨L,hL⟩:∃ L,L=r :: (Value.slice (some ⟨g,0,none⟩) bs.length gc).ownBlock.toList:=⟨_,rfl⟩
    have hgL:g∈L:=by rw[hL];simp[Value.ownBlock]
    have hrL:r∈L:=by rw[hL];simp
    rw[← hL] at hA
    have HLL:=ZB hL
    clear hL
    go_loopw [46] (fun i wr=>∃ j:Nat,j≤m∧i=.int .i64 j∧RowAt wr base r (.slice (some ⟨g,0,none⟩) bs.length gc) (laid bs a ((zs.take j).flatMap (le k))) (a+k*j)∧Keep L w wr) (fun i _=>m-(intOf i).toNat)
    case atStart=>exact⟨0,Nat.zero_le _,rfl,by simpa using h.drew,(Keep.refl _ _).drew⟩
    case round=>
     obtain⟨j,hj,rfl,hR,hkp⟩:=hrel
     by_cases hlt:j<m
     · obtain⟨b,o,u,rfl,hx,hb,hcx⟩:=hr.at_ hlt
       have hbL:b∉L:=hA _ rfl
       replace hcx:=(hkp.cell hb hbL (o+j)).trans hcx
       have hjl:j<zs.length:=by rw[QA HL];exact hlt
       simp only[ZP,List.getElem?_map,List.getElem?_eq_getElem hjl,Option.map_some,Option.some.injEq] at hx
       subst hx
       have hzj:=hz _ (List.getElem_mem hjl)
       have hfl:((zs.take j).flatMap (le k)).length=k*j:=by rw[QH,List.length_take];congr 1;omega
       have hfs:(zs.take (j+1)).flatMap (le k)=(zs.take j).flatMap (le k)++le k zs[j]:=by rw[List.take_succ_eq_append_getElem hjl,List.flatMap_append];simp
       have hkj:k*j+k≤k*m:=by rw[← Nat.mul_succ];exact Nat.mul_le_mul_left _ hlt
       have hmn:=QA HM
       have hbn:=QA HN
       generalize zs[j]=z at *
       have hz4:z<256 ^ 4:=Nat.lt_of_lt_of_le hzj (Nat.pow_le_pow_right (by omega) hk1.2)
       obtain⟨t,ht⟩:∃ t,t=a+k*j:=⟨_,rfl⟩
       obtain⟨F,hF⟩:∃ F,F=(zs.take j).flatMap (le k):=⟨_,rfl⟩
       rw[← hF] at hR hfl hfs
       rw[← ht] at hR
       have htn:t+k≤n:=by omega
       have hFl:a+F.length=t:=by omega
       have hz63:z≤9223372036854775807:=by omega
       have hown:=hR.own
       have hll:(laid bs a F).length=bs.length:=XF _ _ _ (by omega)
       rw[hll] at hown
       have hblk:=hR.blk
       have HFS:=ZB hfs
       have HT:=ZB ht
       have HFL:=ZB hFl
       have HZ6:=ZB hz63
       have HBN:=ZB hbn
       have HFK:=ZB hfl
       rw[← hbn] at hown hblk
       clear hfs ht hFl hz63 hz4 hzj hF hll hkj hmn hbn hfl hR
       go_wp2
       go_loopw [51] (fun i wi=>∃ q:Nat,q≤k∧i=.int .i64 q∧Blk wi r 392 #[.slice (some ⟨g,0,none⟩) n gc,.int .i64 t]∧wi.ownsRow base 5 1 (.slice (some ⟨g,0,none⟩) n gc) n (bys (laid bs a (F++le q z)))∧Keep L w wi) (fun i _=>k-(intOf i).toNat)
       case atStart=>exact⟨0,Nat.zero_le _,rfl,hblk,by simpa using hown,hkp⟩
       case round=>
        clear hblk hown hcx hkp
        obtain⟨q,hq,rfl,hblk,hown,hkp⟩:=hrel
        have h0:wr.cell? ⟨r,0,none⟩=some (.slice (some ⟨g,0,none⟩) n gc):=by simpa using hblk.cell 0
        have h1:wr.cell? ⟨r,1,none⟩=some (.int .i64 t):=by simpa using hblk.cell 1
        have hf1:=hblk.frozen 1
        by_cases hq4:q<k
        · have hbl:(bys (laid bs a (F++le q z))).length=n:=by
           rw[length_bys,XF _ _ _ (by rw[List.length_append,length_le];have:=QA HFL;have:=QA HBN;omega)];exact(QA HBN).symm
          have hcell:wr.cell? ⟨g,t+q,none⟩=some ((bys (laid bs a (F++le q z)))[t+q]'(by rw[hbl];omega)):=QK hown (List.getElem?_eq_getElem _)
          have hfz:=XJ hown (t+q)
          generalize (bys (laid bs a (F++le q z)))[t+q]'_=u at hcell
          have hs1:IntKind.i64.wrap ((t:Nat)+(q:Nat):Int)=(t:Nat)+(q:Nat):=by rw[IntKind.wrap_i64];omega
          have hs2:IntKind.i64.wrap (8*(q:Nat):Int)=8*(q:Nat):=by rw[IntKind.wrap_i64];omega
          have hb0:(0:Int)≤(t:Nat)+(q:Nat):=by omega
          have hb1:((t:Nat):Int)+(q:Nat)<(n:Nat):=by omega
          have hb2:(((t:Nat):Int)+(q:Nat)).toNat=t+q:=by omega
          have HBL:=ZB hbl
          clear hbl
          go_wp2
          refine ZT (fun w'=>w'.cell? ⟨r,0,none⟩=some (.slice (some ⟨g,0,none⟩) n gc)∧w'.cell? ⟨r,1,none⟩=some (.int .i64 t)) 16 [[0,1,2,3,4,5,6,7,8,9,10,11,12,13,14,15]] ⟨h0,h1⟩ ?_
          simp only[PI]
          iterate 16 (refine ZH ?_;simp only[Act.put,PU])
          refine JB ?_
          clear hs1 hs2
          go_wp2
          have hrg:r≠g:=fun e=>own_blk_ne hown hblk (by decide) (by simp[Value.ownBlock,e])
          have hFL:=QA HFL
          have hBN:=QA HBN
          go_roundw
          case rel=>
           refine⟨q+1,by omega,by go_num,(hblk.far (p:=⟨g,t+q,none⟩) hrg _).drew,?_,(hkp.setCell (p:=⟨g,t+q,none⟩) (.inl hgL) _).drew⟩
           rw[XAe _ _ (QA HZ6) (by omega),le_succ,← List.append_assoc]
           exact ZA (Kv hown (by rw[List.length_append,length_le];omega) _ _ (by rw[List.length_append,length_le];omega)) (Keep.refl _ _).drew
          case measure=>simp[intOf];omega
        · obtain rfl:k=q:=by omega
          have hrl:=hblk.lt
          go_wp2
          have hnm:r∉(Value.slice (some ⟨g,0,none⟩) n gc).ownBlock.toList:=fun hm=>own_blk_ne hown hblk (by decide) (by simpa using hm)
          have hFL:=QA HFL
          have hFK:=QA HFK
          have hBN:=QA HBN
          have hT:=QA HT
          have hFS:=QA HFS
          subst hBN
          have hll:(laid bs a (F++le k z)).length=bs.length:=XF _ _ _ (by rw[List.length_append,length_le];omega)
          go_roundw
          case rel=>
           refine⟨j+1,by omega,by go_num,?_,hkp.setCell (p:=⟨r,1,none⟩) (.inl hrL) _⟩
           rw[hFS,show a+k*(j+1)=t+k by rw[Nat.mul_succ];omega]
           refine⟨?_,by rw[hll];exact own_set hown hnm _,h.base,by omega,by omega⟩
           have:=hblk.set 1 (.int .i64 ((t+k:Nat)))
           simpa using this
          case measure=>simp[intOf];omega
     · obtain rfl:m=j:=by omega
       go_wp2
       go_ret
       rw[List.take_of_length_le (Nat.le_of_eq (QA HL))] at hR
       exact⟨rfl,hR,by rw[← QA HLL];exact hkp⟩
end
end Go.Proofs.YthgphmfipnjllaaGreat
