/- Lemmas of the proof, with their conditions. -/
import Derived.Test.YthgphmfipnjllaaGreatV11
import Derived.Test.YthgphmfipnjllaaGreatV04
import Derived.Deep.Cut
namespace Go.Proofs.YthgphmfipnjllaaGreat
set_option linter.unusedSimpArgs false
set_option linter.unusedVariables false
set_option maxHeartbeats 2000000
set_option maxRecDepth 20000
section
open Go.RowKit
theorem ZAz (n:Nat) (hn:n≤65536):bits BinOp.and IntKind.u64 ((n:Nat):Int) 4294967295=(n:Nat):=by
 show IntKind.u64.wrap ((BitVec.ofInt 64 ((n:Nat):Int) &&& BitVec.ofInt 64 4294967295).toNat:Int)=_
 rw[BitVec.ofInt_natCast,show BitVec.ofInt 64 4294967295=BitVec.ofNat 64 4294967295 by decide,BitVec.toNat_and,BitVec.toNat_ofNat,BitVec.toNat_ofNat,Nat.mod_eq_of_lt (by omega),Nat.mod_eq_of_lt (by omega),show 4294967295=2 ^ 32-1 by decide,Nat.and_two_pow_sub_one_eq_mod,Nat.mod_eq_of_lt (by omega)]
 rw[show IntKind.u64.wrap ((n:Nat):Int)=((n:Nat):Int) % 18446744073709551616 from rfl]
 omega
theorem KAX (n:Nat) (hn:n≤65536) (w:World):Calls Tryz.prog 380 #[.int .u64 1,.int .u64 (n:Nat)] w fun e w'=>e=.returned (.tuple #[.int .u64 0,.int .u64 (n:Nat)])∧w=w':=by
 have h1:=ZAz n hn
 have h10:bits BinOp.and IntKind.u64 1 4294967295=1:=by decide
 have h00:bits BinOp.and IntKind.u64 0 4294967295=0:=by decide
 have hw:IntKind.u64.wrap ((n:Nat):Int)=(n:Nat):=by rw[show IntKind.u64.wrap ((n:Nat):Int)=((n:Nat):Int) % 18446744073709551616 from rfl];omega
 have hw0:IntKind.u64.wrap 0=0:=by decide
 have h2:((n:Nat):Int) / 4294967296=0:=by omega
 have hI:((n:Nat):Int)≤65536:=by omega
 go_enter Tryz.func380,Tryz.ntmps380
 go_wp2
 go_ret2
 exact⟨rfl,rfl⟩
theorem ZAx (n:Nat) (hn:n≤65536) (w:World):Calls Tryz.prog 363 #[.int .u64 1,.int .u64 (n:Nat)] w fun e w'=>e=.returned (.tuple #[.int .u64 0,.int .u64 (n:Nat)])∧w=w':=by
 have hT:=KAX n hn w
 go_enter Tryz.func363,Tryz.ntmps363
 go_wp2_with (refine hT.mono ?_;clear hT;rintro e w' ⟨rfl,rfl⟩)
 go_ret2
 exact⟨rfl,rfl⟩
theorem Elem.wp1_copy {P:Program} {t e:TypeId} {z:Value} {bytes:Nat} (E:Elem P t e z bytes) {w:World} {o:Oper} {a:Act} {K:Act→World→Prop} {Q:Exit→Act→World→Prop} (d s:Operand)
 (ho:o.op=.call { callee:=.builtin .copy,args:=#[d,s],argTypes:=#[t,t] })
 (g off dl dc:Nat) (A:Option Addr) (sl sc:Nat) (hd:a.eval d=.slice (some ⟨g,off,none⟩) dl dc) (hs:a.eval s=.slice A sl sc)
 (cur:List Value) (tt:TypeId) (hg:Blk w g tt cur.toArray) (hfit:off+dl≤cur.length)
 (ys:List Value) (hr:Rd w A sl ys) (h1:∀ v∈ys.take dl,v.oneCell'=true) (hpos:0<Nat.min sl dl)
 (h:∀ w',Blk w' g tt (laid cur off (ys.take dl)).toArray→Keep [g] w w'→K (a.put o.dst (.int .i64 (Nat.min sl dl:Nat))) w'):o.wp P a w K Q:=by
 obtain⟨i,hi,hz,hsz,hby⟩:=E.info
 have hsz':(P.info? e).map (·.size)=some 1:=by rw[hi];simp[hsz]
 have hlen:(ys.take dl).length=Nat.min sl dl:=by rw[List.length_take,hr.1];exact Nat.min_comm _ _
 have hm1:Nat.min sl dl≤sl:=Nat.min_le_left _ _
 have hm2:Nat.min sl dl≤dl:=Nat.min_le_right _ _
 obtain⟨b,o',rfl,hb,hc⟩:=hr.2 (by omega)
 have hrun:=run_copy_row (P:=P) w t t o.type e g off dl dc ⟨b,o',none⟩ sl sc cur.toArray tt (ys.take dl) E.und hsz' hg hlen (fun j v hv=>by
  rw[Addr.add_mid]
  refine hc j v ?_
  rw[List.getElem?_take] at hv
  split at hv
  · exact hv
  · cases hv) (by rw[hlen];simp;omega) h1
 rw[hlen] at hrun
 unfold Oper.wp execOp
 simp only[ho,resolve,invoke,builtin,Sem.run_bind,Sem.run_pure,Result.andThen_ok,List.map_toArray,List.map_cons,List.map_nil,hd,hs,hrun]
 refine h _ ?_ ⟨rfl,rfl,rfl,by simp[World.setRow],fun k hk hn=>setRow_other w g k _ (by simpa using hn)⟩
 show _=_
 have:=setRow_heap w g cur.toArray (cur.take off++ys.take dl++cur.drop (off+Nat.min sl dl)).toArray tt _ hg
 unfold laid
 rw[hlen]
 simpa using this
theorem elemInts:Elem Tryz.prog 22 3 (.int .i64 0) 8:=Elem.of Tryz.underlying22 (by kernel_rfl) rfl
theorem Vg (A:Option Addr) (c:Nat) (z:Int) (n:Nat) (h0:0<n) (hn:n≤4096) (w:World) (ha:Rd w A 1 [.int .i64 z]) :
 Calls Tryz.prog 321 #[.slice A 1 c,.int .i64 (n:Nat)] w fun e w'=>∃ v,e=.returned v∧w'.ownsRow w.heap.size 3 1 v n (List.replicate n (.int .i64 z))∧Keep [] w w':=by
 have hT:=fun W=>ZAx n (by omega) W
 have hI:((n:Nat):Int)≤4096:=by omega
 have hu:IntKind.u64.wrap ((n:Nat):Int)=(n:Nat):=by rw[show IntKind.u64.wrap ((n:Nat):Int)=((n:Nat):Int) % 18446744073709551616 from rfl];omega
 go_enter Tryz.func321,Tryz.ntmps321
 go_upto_region 7 with(first
  | (go_at_call 363;refine(hT _).mono ?_;rintro e w' ⟨rfl,rfl⟩)
  | (at_make;refine elemInts.wp_make rfl _ _ rfl .i64 .i64 n n n rfl rfl rfl rfl (by omega) (by omega) ?_))
 refine wp_region_lit ?_
 refine Kd rfl rfl ?_
 simp only[Act.put,PU]
 refine Kd rfl rfl ?_
 simp only[Act.put,PU]
 refine wpList_plain rfl fun K hK=>?_
 refine elemInts.wp1_copy (.tmp 31) (.tmp 32) rfl w.heap.size 0 n n A 1 c rfl rfl (List.replicate n (.int .i64 0)) 3 (by have:=Blk.new w 3 (Array.replicate n (.int .i64 0));simpa using this) (by simp) _ (ha.keep ((Keep.refl _ w).alloc _)) (by intro v hv;have:=List.mem_of_mem_take hv;simp at this;subst this;rfl) (by rw[show Nat.min 1 n=1 from Nat.min_eq_left (by omega)];omega) ?_
 intro w1 hw1 hk1
 refine hK _ _ ?_
 simp only[Act.put,PU]
 clear hK K
 rw[show Nat.min 1 n=1 from Nat.min_eq_left (by omega)]
 have hkw:Keep [] w w1:=((Keep.refl [] w).alloc _).trans hk1 (fun x hx=>.inr (by simp at hx;omega))
 have hw1':Blk w1 w.heap.size 3 (List.replicate 1 (Value.int .i64 z)++List.replicate (n-1) (Value.int .i64 0)).toArray:=by
  have e:laid (List.replicate n (Value.int .i64 0)) 0 ([Value.int .i64 z].take n)=List.replicate 1 (Value.int .i64 z)++List.replicate (n-1) (Value.int .i64 0):=by
   rw[List.take_of_length_le (by simp;omega)]
   simp[laid]
  rw[← e];exact hw1
 clear hw1
 go_wp2_with fail
 go_loopw [8] (fun i wr=>∃ m:Nat,1≤m∧m≤n∧i=.int .i64 m∧Blk wr w.heap.size 3 (List.replicate m (Value.int .i64 z)++List.replicate (n-m) (Value.int .i64 0)).toArray∧Keep [] w wr) (fun i _=>n-(intOf i).toNat)
 case atStart=>exact⟨1,Nat.le_refl _,by omega,rfl,hw1',hkw⟩
 case round=>
  obtain⟨m,hm1,hm,rfl,hb,hk⟩:=hrel
  obtain⟨g,hg⟩:∃ g,g=w.heap.size:=⟨_,rfl⟩
  rw[← hg] at hb ⊢
  have HG:=ZB hg
  clear hg
  by_cases hlt:m<n
  · have hltI:((m:Nat):Int)<(n:Nat):=by omega
    have hnm:¬ n=m:=by omega
    go_wp2_with fail
    refine ZT (fun _=>True) 8 [[0,1,2,3,4,5,6],[7]] trivial ?_
    simp only[PI]
    iterate 7 (refine ZH ?_;simp only[Act.put,PU])
    refine XB (by rfl) (fun K hK=>?_)
    have hrd:Rd wr.drew (some ⟨g,0,none⟩) m (List.replicate m (.int .i64 z)):=by
     have:=Rd.of_blk hb.drew (n:=m) (by simp)
     rwa [show (List.replicate m (Value.int .i64 z)++List.replicate (n-m) (Value.int .i64 0)).toArray.toList.take m=List.replicate m (Value.int .i64 z) by simp] at this
    refine elemInts.wp1_copy (.tmp 41) (.tmp 44) rfl g m (n-m) (n-m) (some ⟨g,0,none⟩) m n (by rfl) (by rfl) _ 3 hb.drew (by simp) _ hrd (by intro v hv;have:=List.mem_of_mem_take hv;simp at this;obtain⟨_,rfl⟩:=this;rfl) (by show 0<min m (n-m);omega) ?_
    intro w2 hw2 hk2
    refine hK _ _ (trivial) ?_
    clear hK K
    try simp only[Act.put,PU]
    refine JB ?_
    obtain⟨q,hq⟩:∃ q,q=Nat.min m (n-m):=⟨_,rfl⟩
    rw[← hq]
    have hqb:q=min m (n-m):=hq
    have hq1:1≤q∧m+q≤n:=by omega
    have e:laid (List.replicate m (Value.int .i64 z)++List.replicate (n-m) (Value.int .i64 0)) m ((List.replicate m (Value.int .i64 z)).take (n-m))=List.replicate (m+q) (Value.int .i64 z)++List.replicate (n-(m+q)) (Value.int .i64 0):=by
     rw[List.take_replicate,show min (n-m) m=q by omega]
     unfold laid
     rw[List.length_replicate,List.take_append_of_le_length (by simp),List.take_of_length_le (by simp),List.drop_append,List.drop_of_length_le (by simp),List.length_replicate,List.nil_append,List.drop_replicate,List.replicate_append_replicate]
     congr 2;omega
    rw[e] at hw2
    have hkw:Keep [] w w2:=hk.trans ((Keep.refl [g] wr).drew.trans hk2 (fun x hx=>.inl hx)) (fun x hx=>.inr (by have:=QA HG;simp at hx;omega))
    clear hq hqb e hk2
    obtain⟨hq1,hq2⟩:=hq1
    go_wp2_with fail
    go_roundw
    case rel=>exact⟨m+q,by omega,hq2,by go_num,hw2,hkw⟩
    case measure=>simp[intOf];omega
  · obtain rfl:m=n:=by omega
    go_wp2_with fail
    go_ret
    refine⟨_,rfl,?_,hk⟩
    rw[← QA HG]
    refine VM hb (Nat.le_refl _) (by omega) (by simp) (by simp)
end
end Go.Proofs.YthgphmfipnjllaaGreat
