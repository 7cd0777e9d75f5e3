/- Lemmas of the proof, with their conditions. -/
import Derived.Test.YtkonbpfbjiepfaaGreatT19
import Derived.Test.YtkonbpfbjiepfaaGreatT26
namespace Go.Proofs.YtkonbpfbjiepfaaGreat
set_option linter.unusedSimpArgs false
set_option linter.unusedVariables false
set_option maxHeartbeats 4000000
set_option maxRecDepth 100000
section
open Go.RowKit Go.Shelf
attribute [local go_sem] Oper.semAt_some
theorem PagedIs.putObj {W:World} {base p k:Nat} {L U:Value} {F:List Nat} {l:List Int} {ds:List Bool} {o:Obj} (h:PagedIs W base p L U F l ds) (o':Obj) (hl:W.heap[k]? = some o) (ho:o.isCells=false):PagedIs (W.putObj k o') base p L U F l ds:=
 ⟨XH o' h.blk hl ho,ownsRow_putObj h.rl o' hl ho,ownsRow_putObj h.rd o' hl ho,h.foot,h.base,h.pos,h.few,h.pages⟩
theorem PagedIs.isCells {W:World} {base p:Nat} {L U:Value} {F:List Nat} {l:List Int} {ds:List Bool} (h:PagedIs W base p L U F l ds):∀ g∈F,∀ o,W.heap[g]? = some o→o.isCells=true:=by
 intro g hg o ho;rw[h.foot] at hg;simp only[List.mem_cons,List.mem_append] at hg;rcases hg with rfl | hg | hg
 · rw[show W.heap[_]? = _ from h.blk] at ho;cases ho;rfl
 · exact KO h.rl g hg o ho
 · exact KO h.rd g hg o ho
def Vd (base p n:Nat) (L U:Value) (F:List Nat) (W:World):Prop:=∃ l ds,l.length=n∧PagedIs W base p L U F l ds
abbrev PRnd:=Nat×Int
def VM (x:PRnd):Array Value:=#[.int .i64 (x.1:Nat),.int .i64 x.2]
def VBB (base p n:Nat) (L U:Value) (F:List Nat) (pre:List PRnd) (x:PRnd) (W:World):Prop:=x.1=pre.length∧∃ l ds,l.length=n∧PagedIs W base p L U F l ds∧l[x.1]? = some x.2
def ZAW (base p n bc:Nat) (L U:Value) (F:List Nat) (W W':World):Prop:=
 (Boxed W bc 198 (.pointer (some ⟨p,0,none⟩))→Boxed W' bc 198 (.pointer (some ⟨p,0,none⟩)))∧(Vd base p n L U F W→Vd base p n L U F W')
theorem Xs (n:Nat) (v:Value) (w:World) (hv:v.oneCell'=true) :
 CallsIn Fence.wide n Tryz.prog 120 #[v] w fun e w'=>e=.returned (.func (.func 208) #[] #[.pointer (some ⟨w.heap.size,0,none⟩)])∧w'=w.alloc (.cells #[v] 198):=by
 refine(callsIn_wide (n:=n)).2 ?_
 go_enter Tryz.func120,Tryz.ntmps120
 go_wp2
 go_ret;exact⟨rfl,rfl⟩
theorem Kl (n bc base p m:Nat) (L U:Value) (F:List Nat) (w:World) (hs:Vd base p m L U F w) (hbc:Boxed w bc 198 (.pointer (some ⟨p,0,none⟩))) :
 KAx n Tryz.prog 208 #[.pointer (some ⟨bc,0,none⟩)] VM (VBB base p m L U F) (ZAW base p m bc L U F) (fun xs=>xs.length=m) w:=by
 intro l J W hW hJ hY h0;replace hs:Vd base p m L U F W:=by obtain⟨ls,ds,h1,h2⟩:=hs;exact⟨ls,ds,h1,h2.keep0 hW⟩
 replace hbc:Boxed W bc 198 (.pointer (some ⟨p,0,none⟩)):=(hW.block bc hbc.lt (by simp)).trans hbc;have hcb:=hbc.cell;have hm64:1≤m∧m≤64:=by obtain⟨ls,ds,h1,h2⟩:=hs;rw[← h1];exact⟨h2.pos,h2.few⟩
 obtain⟨hm1,hm2⟩:=hm64
 have hT:=callsIn_wide (n:=n-1).2 (show Calls Tryz.prog 199 #[.pointer (some ⟨p,0,none⟩)] W fun e w'=>e=.returned (.int .i64 (m:Nat))∧W=w' from by
  obtain⟨ls,ds,h1,h2⟩:=hs;have:=LenP_is W base p F ls ds ⟨L,U,h2⟩
  rwa [h1] at this)
 refine callsIn_of_wp Tryz.func208 rfl trivial ?_ rfl;simp only[Tryz.ntmps208,List.size_toArray,List.length_cons,List.length_nil,Nat.reduceAdd,Nat.reduceSub,Array.replicate_succ,Array.replicate_zero,List.push_toArray,List.append_toArray,List.nil_append,List.cons_append]
 gi_wp2_with (refine⟨trivial,fun h=>by simp[Fence.wide] at h,?_⟩;refine hT.mono ?_;clear hT;rintro e w' ⟨rfl,rfl⟩)
 gi_loopw [3,6] (fun _ i wr=>∃ (k:Nat) (pre:List PRnd),k≤m∧i=.int .i64 (k:Nat)∧J pre wr∧Hid (pre.length=k)∧Vd base p m L U F wr∧Boxed wr bc 198 (.pointer (some ⟨p,0,none⟩)))
  (fun _ i _=>m-(intOf i).toNat)
 case atStart=>exact⟨0,[],Nat.zero_le _,rfl,h0,rfl,hs,hbc⟩
 case round=>
  clear hs hbc h0 hcb;obtain⟨k,pre,hk,rfl,hJp,hpl,hs,hbc⟩:=hrel;have hcb:=hbc.cell
  by_cases hlt:k<m
  · have hltI:((k:Nat):Int)<(m:Nat):=by omega
    obtain⟨ls,ds,hll,hP⟩:=hs;obtain⟨g,c,u,uc,rfl,rfl,_⟩:=hP.forms;have hc0:=hP.cells.1;obtain⟨z,hsome⟩:∃ z,ls[k]? = some z:=⟨_,List.getElem?_eq_getElem (by omega)⟩;have hcx:wr.cell? ⟨g,k,none⟩=some (.int .i64 z):=JI hP.rl (by simp[VI,i64,hsome]);obtain⟨fn,tmps,assign,body,hy,hR⟩:=hY pre (k,z) wr hJp ⟨(JA hpl).symm,ls,ds,hll,hP,hsome⟩;dsimp only[VM] at hy;have HS:Hid (Vd base p m (.slice (some ⟨g,0,none⟩) ls.length c) (.slice (some ⟨u,0,none⟩) ds.length uc) F wr):=XC ⟨ls,ds,hll,hP⟩;rw[hll] at hc0;have HL:=XC hll;clear hsome hll hP
    gi_wp2
    refine⟨fun h=>by simp[Fence.wide] at h,hR.mono ?_⟩;rintro e W3 ⟨rfl,hJ3,hb3,hs3⟩;have hs4:=hs3 (JA HS);clear hy hR hc0 hcx HS hs3
    gi_wp2
    go_roundw
    case rel=>exact⟨k+1,_,by omega,by go_num,hJ3,by show _=_;rw[List.length_append,JA hpl];rfl,hs4,hb3 hbc⟩
    case measure=>simp[intOf];omega
  · obtain rfl:k=m:=by omega
    gi_wp2
    go_end0
    exact⟨⟨_,rfl⟩,pre,JA hpl,hJp⟩
end
section
open Go.RowKit Go.Shelf
attribute [local go_sem] Oper.semAt_some
theorem PagedIs.unique {W:World} {base p:Nat} {L U:Value} {F:List Nat} {l l':List Int} {ds ds':List Bool} (h:PagedIs W base p L U F l ds) (h':PagedIs W base p L U F l' ds'):l=l':=by
 obtain⟨g,c,u,uc,rfl,rfl,_⟩:=h.forms;obtain⟨g',c',u',uc',e,_⟩:=h'.forms;injection e with e1 e2 e3;refine List.ext_getElem e2 fun i h1 h2=>?_;have a:=Kc h i h1;obtain⟨b,hb⟩:∃ b,l'[i]? = some b:=⟨_,List.getElem?_eq_getElem h2⟩;have hr:=h'.rl;rw[← e2] at hr;have b:=JI hr (i:=i) (u:=.int .i64 l'[i]) (by simp[VI,i64,h2]);rw[a] at b;simpa using b
def ZG (l:List Int):Nat:=l.countP (fun x=>x != -1)
structure KPen (w:World) (B2:Nat) (l:List Int) (pre:List PRnd) (W:World):Prop where
 cnt:Boxed W B2 3 (.int .i64 (ZG (pre.map (·.2)):Nat))
 keep:Keep [] w W
 vals:pre.map (·.2)=l.take pre.length
theorem KPen.kept {w A B:World} {B2:Nat} {l:List Int} {pre:List PRnd} (h:KPen w B2 l pre A) (hk:Keep [] A B):KPen w B2 l pre B:=⟨KA h.cnt hk (by simp),h.keep.trans0 hk,h.vals⟩
theorem KPen.turned {w W:World} {B2 k:Nat} {l:List Int} {pre:List PRnd} {o o':Obj} (h:KPen w B2 l pre W) (hl:w.heap.size≤k) (hg:W.heap[k]? = some o) (ho:o.isCells=false):KPen w B2 l pre (W.putObj k o'):=
 ⟨ZC o' h.cnt hg ho,h.keep.putObj hl o',h.vals⟩
theorem JAP (w:World) (base m:Nat) (F:List Nat) (I:PImage) (h:ImageAt w base m F I) :
 Calls Tryz.prog 155 #[.pointer (some ⟨m,0,none⟩)] w fun e w'=>e=.returned (.int .i64 (ZG I.ol:Nat))∧Keep [] w w':=by
 obtain⟨p1,p2,F1,F2,h⟩:=h;refine(callsIn_wide (n:=3)).1 ?_;refine callsIn_of_wp_marks Tryz.func155 rfl trivial ?_ rfl;simp only[Tryz.ntmps155,List.size_toArray,List.length_cons,List.length_nil,Nat.reduceAdd,Nat.reduceSub,Array.replicate_succ,Array.replicate_zero,List.push_toArray,List.append_toArray,List.nil_append,List.cons_append];have hT:=fun W (hk:Keep [] w W)=>callsIn_wide (n:=2).2 (XM W base m p1 p2 F F1 F2 I (h.keep0 hk) true)
 gi_wp2_with (first
  | (refine⟨trivial,?_⟩;refine(hT _ ((Keep.refl _ _).alloc _)).mono ?_;rintro e w' ⟨rfl,rfl⟩)
  | (refine⟨trivial,?_⟩;refine(Xs _ _ _ rfl).mono ?_;rintro e w' ⟨rfl,rfl⟩))
 obtain⟨w1,hw1⟩:∃ w1,w1=w.alloc (.cells #[.int .i64 0] 3):=⟨_,rfl⟩;obtain⟨w2,hw2⟩:∃ w2,w2=w1.alloc (.cells #[.pointer (some ⟨p2,0,none⟩)] 198):=⟨_,rfl⟩;rw[← hw1,← hw2];have s1:w1.heap.size=w.heap.size+1:=by rw[hw1,World.size_alloc]
 have s2:w2.heap.size=w.heap.size+2:=by rw[hw2,World.size_alloc,s1]
 have k1:Keep [] w w1:=by rw[hw1];exact(Keep.refl _ _).alloc _
 have k2:Keep [] w1 w2:=by rw[hw2];exact(Keep.refl _ _).alloc _
 have kw:Keep [] w w2:=k1.trans0 k2;have b2:Boxed w2 w.heap.size 3 (.int .i64 0):=KA (by rw[hw1];exact Boxed.new w _ _) k2 (by simp);have bc:Boxed w2 (w.heap.size+1) 198 (.pointer (some ⟨p2,0,none⟩)):=by rw[hw2,← s1];exact Boxed.new w1 _ _
 have h0:KPen w w.heap.size I.ol [] w2:=⟨b2,kw,rfl⟩;obtain⟨L,U,hP⟩:=h.o;have hlt:=hP.lt;have hseq:=Kl 2 (w.heap.size+1) base p2 I.ol.length L U F2 w2 ⟨I.ol,I.od,rfl,hP.keep0 kw⟩ bc
 refine QO (n:=3) (gf:=208) (lb:=#[.pointer (some ⟨w.heap.size+1,0,none⟩)]) rfl (enters_of Tryz.func208 (by kernel_rfl) rfl)
  hseq
  (fun A B C h k=>⟨fun hb=>k.1 (h.1 hb),fun hb=>k.2 (h.2 hb)⟩)
  (fun W l o o' hl hg' ho=>⟨fun hb=>ZC o' hb hg' ho,fun⟨ls,ds,q1,q2⟩=>⟨ls,ds,q1,q2.putObj o' hg' ho⟩⟩)
  (fun _=>rfl) (KPen w w.heap.size I.ol) (fun s A B h hk=>h.kept hk) (fun s W l o o' h hl hg' ho=>h.turned (by omega) hg' ho)
  (fun pre x W l o o' h hl hg' ho=>⟨h.1,by obtain⟨ls,ds,q1,q2,q3⟩:=h.2;exact⟨ls,ds,q1,q2.putObj o' hg' ho,q3⟩⟩) h0
  (fun x=>{ tmps:=#[.pointer (some ⟨m,0,none⟩),undef,.pointer (some ⟨w.heap.size,0,none⟩),undef,.int .i64 x.2,.pointer (some ⟨m,0,none⟩),.pointer (some ⟨p2,0,none⟩),
    .func (.func 208) #[] #[.pointer (some ⟨w.heap.size+1,0,none⟩)],.int .i64 (x.1:Nat),.int .i64 x.2,undef,undef,undef,undef,undef],defers:=[] }) ?assign ?body ?done
 case assign=>
  rintro l ⟨k,z⟩ W K hK;dsimp only[VM] at hK ⊢
  gi_wp2
  exact hK
 case body=>
  rintro l pre ⟨k,z⟩ W hI ⟨hk,ls,ds,q1,q2,q3⟩;dsimp only at hk q3 ⊢;obtain rfl:=q2.unique (hP.keep0 hI.keep);have hkl:pre.length<I.ol.length:=by rw[← hk];exact(List.getElem?_eq_some_iff.1 q3).1
  have hvals:(pre++[(k,z)]).map (·.2)=I.ol.take (pre++[(k,z)]).length:=by
   rw[List.map_append,hI.vals,List.length_append,List.length_singleton,List.take_succ_eq_append_getElem hkl];subst hk;rw[List.getElem?_eq_getElem hkl] at q3;rw[show I.ol[pre.length]=z by simpa using q3];rfl
  have hcount:ZG ((pre++[(k,z)]).map (·.2))=ZG (pre.map (·.2))+if z != -1 then 1 else 0:=by
   rw[List.map_append,ZG,ZG,List.countP_append];simp[List.countP_singleton]
  have hle:ZG (pre.map (·.2))≤64:=by
   have h1:=List.countP_le_length (p:=fun x:Int=>x != -1) (l:=pre.map (·.2));rw[List.length_map] at h1;have:=hP.few;unfold ZG;omega
  obtain⟨q,hq⟩:∃ q,q=ZG (pre.map (·.2)):=⟨_,rfl⟩;have hbx:=hI.cnt;rw[← hq] at hbx hle hcount;have hc2:=hbx.cell;have hf2:=hbx.frozen;have hltB:=hbx.lt;have HI:=XC hI;have HC:=XC hcount;have HV:=XC hvals;clear h0 b2 bc kw k1 k2 hw1 hw2 hseq hI hk q3 hq hcount hvals hkl;have hpost:∀ y:Int,Keep [w.heap.size] W (W.setCell ⟨w.heap.size,0,none⟩ (.int .i64 y)):=fun y=>(Keep.refl _ _).setCell (p:=⟨w.heap.size,0,none⟩) (.inl (by simp)) _
  by_cases hz:z = -1
  · subst hz
    gi_wp2
    have hI:=JA HI;refine⟨(Keep.refl [] W).fromCells (by simp) _,⟨fun h=>h,fun h=>h⟩,⟨?_,hI.keep,JA HV⟩⟩;rw[JA HC];simpa using hbx
  · have hzne:(z != -1)=true:=by simpa using hz
    gi_wp2
    have hI:=JA HI;have hk3:=hpost ((q:Nat)+1);refine⟨hk3.fromCells (fun g hg o ho=>?_) _,⟨fun hb=>KA hb hk3 (by simp),fun⟨ls',ds',r1,r2⟩=>⟨ls',ds',r1,r2.keep hk3 (fun x hx=>by have:=hlt x hx;simp;omega)⟩⟩,⟨?_,hI.keep.trans hk3 (fun x hx=>.inr (by simp at hx;omega)),JA HV⟩⟩
    · rw[List.mem_singleton.1 hg] at ho
      rw[show W.heap[_]? = _ from hbx] at ho;cases ho;rfl
    · have:=hbx.set (.int .i64 ((q:Nat)+1))
      rw[JA HC,hzne];simpa using this
 case done=>
  intro D' xs W hD' hS hI hdef;have hv:=hI.vals;rw[hS,List.take_length] at hv;have hbx:=hI.cnt;rw[hv] at hbx;obtain⟨q,hq⟩:∃ q,q=ZG I.ol:=⟨_,rfl⟩;rw[← hq] at hbx;have HQ:=XC hq;clear hq;have hc2:=hbx.cell;have hf2:=hbx.frozen;have HI:=XC hI;clear h0 b2 bc kw k1 k2 hw1 hw2 hseq hI hv
  gi_wp2
  have hI:=JA HI;have hKs:Keep [w.heap.size] W (W.setCell ⟨w.heap.size,0,none⟩ (.int .i64 (q:Nat))):=(Keep.refl _ _).setCell (p:=⟨w.heap.size,0,none⟩) (.inl (by simp)) _;have hdef2:(W.setCell ⟨w.heap.size,0,none⟩ (.int .i64 (q:Nat))).heap[D']? = some (.deferred (some [])):=(hKs.block D' (Array.getElem?_eq_some_iff.1 hdef).1 (by simp;omega)).trans hdef;have q6:=(ZC (.deferred none) (hbx.set (.int .i64 (q:Nat))) hdef2 rfl).cell;have hkw:=(hI.keep.trans hKs (fun x hx=>.inr (by simp at hx;omega))).putObj (g:=D') (by omega) (.deferred none);refine⟨by simp,.inl ⟨_,_,rfl,run_takeDeferred hdef2,?_⟩⟩;refine⟨.int .i64 (q:Nat),?_,by rw[JA HQ],hkw⟩;simp[results,Tryz.results155,go_sem,q6]
end
section
open Go.RowKit Go.Shelf
attribute [local go_sem] Oper.semAt_some
theorem ElemN.wpIn_app {P:Program} {t e:TypeId} {z:Value} {s bytes:Nat} (E:ElemN P t e z s bytes) {F:Fence} {n':Nat} {w:World} {ops:Array Oper} {rest:List Oper} {o:Oper} {a:Act} {Q:Exit→Act→World→Prop} (hgd:o.guard=none) (sl x:Operand)
 (ho:o.op=.call { callee:=.builtin .append,args:=#[sl,x],argTypes:=#[t,t] })
 (base:Nat) (v:Value) (n:Nat) (xs:List Value) (hs:a.eval sl=v) (hown:w.ownsRow base e s v n xs)
 (ad:Addr) (m c:Nat) (news:List Value) (hx:a.eval x=.slice (some ad) m c) (hr:Rd w (some ad) (m*s) news) (h1:∀ u∈news,u.oneCell'=true)
 (h63:n+m≤9223372036854775807) (hbytes:(n+m)*bytes≤140737488355328) (hbase:base≤w.heap.size)
 (h:∀ v' w',w'.ownsRow base e s v' (n+m) (xs++news)→Keep v.ownBlock.toList w w'→(v'.ownBlock=v.ownBlock∨v'.ownBlock=some w.heap.size)→wpListIn F n' P ops Q rest (a.put o.dst v') w'):wpListIn F n' P ops Q (o :: rest) a w:=by
 obtain⟨v',w',hrun,h2,h3,h4,_⟩:=E.run_app w base o.type v n xs hown ad m c news hr h1 h63 hbytes hbase;refine wpListIn_plain hgd fun K hK=>?_;refine⟨?_,?_⟩
 · simp[Oper.about,ho,resolve,Target.leads,Sem.run_pure]
 · rw[Oper.semAt_plain F _ _ (by rw[ho];intro c h;cases h)]
   simp only[execOp,ho,resolve,invoke,builtin,Sem.run_bind,Sem.run_pure,Result.andThen_ok,List.map_toArray,List.map_cons,List.map_nil,hs,hx,hrun];exact hK _ _ (h v' w' h2 h3 h4)
theorem PagedAt.putObj {W:World} {base p k:Nat} {F:List Nat} {l:List Int} {ds:List Bool} {o:Obj} (h:PagedAt W base p F l ds) (o':Obj) (hl:W.heap[k]? = some o) (ho:o.isCells=false):PagedAt (W.putObj k o') base p F l ds:=by
 obtain⟨L,U,h⟩:=h;exact⟨L,U,h.putObj o' hl ho⟩
theorem PagedAt.unique {W:World} {base p:Nat} {F F':List Nat} {l l':List Int} {ds ds':List Bool} (h:PagedAt W base p F l ds) (h':PagedAt W base p F' l' ds'):l=l':=by
 obtain⟨L,U,h⟩:=h;obtain⟨L',U',h'⟩:=h'
 have e:L=L'∧U=U':=by
  have h1:=h.cells;have h2:=h'.cells;rw[h1.1] at h2;rw[h1.2.2] at h2;exact⟨by simpa using h2.1,by simpa using h2.2.2⟩
 obtain⟨rfl,rfl⟩:=e;have hf:F=F':=h.foot.trans h'.foot.symm;subst hf;exact h.unique h'
def YX (base p n:Nat) (F:List Nat) (W:World):Prop:=∃ l ds,l.length=n∧PagedAt W base p F l ds
def VAw (base p n:Nat) (F:List Nat) (pre:List PRnd) (x:PRnd) (W:World):Prop:=x.1=pre.length∧∃ l ds,l.length=n∧PagedAt W base p F l ds∧l[x.1]? = some x.2
def KAW (base p n bc:Nat) (F:List Nat) (W W':World):Prop:=
 (Boxed W bc 198 (.pointer (some ⟨p,0,none⟩))→Boxed W' bc 198 (.pointer (some ⟨p,0,none⟩)))∧(YX base p n F W→YX base p n F W')
theorem KAh (n bc base p m:Nat) (F:List Nat) (w:World) (hs:YX base p m F w) (hbc:Boxed w bc 198 (.pointer (some ⟨p,0,none⟩))) :
 KAx n Tryz.prog 208 #[.pointer (some ⟨bc,0,none⟩)] VM (VAw base p m F) (KAW base p m bc F) (fun xs=>xs.length=m) w:=by
 intro l J W hW hJ hY h0;replace hs:YX base p m F W:=by obtain⟨ls,ds,h1,h2⟩:=hs;exact⟨ls,ds,h1,h2.keep0 hW⟩
 replace hbc:Boxed W bc 198 (.pointer (some ⟨p,0,none⟩)):=(hW.block bc hbc.lt (by simp)).trans hbc;have hcb:=hbc.cell;have hm64:1≤m∧m≤64:=by obtain⟨ls,ds,h1,h2⟩:=hs;rw[← h1];exact h2.few
 obtain⟨hm1,hm2⟩:=hm64
 have hT:=callsIn_wide (n:=n-1).2 (show Calls Tryz.prog 199 #[.pointer (some ⟨p,0,none⟩)] W fun e w'=>e=.returned (.int .i64 (m:Nat))∧W=w' from by
  obtain⟨ls,ds,h1,h2⟩:=hs;have:=LenP_is W base p F ls ds h2
  rwa [h1] at this)
 refine callsIn_of_wp Tryz.func208 rfl trivial ?_ rfl;simp only[Tryz.ntmps208,List.size_toArray,List.length_cons,List.length_nil,Nat.reduceAdd,Nat.reduceSub,Array.replicate_succ,Array.replicate_zero,List.push_toArray,List.append_toArray,List.nil_append,List.cons_append]
 gi_wp2_with (refine⟨trivial,fun h=>by simp[Fence.wide] at h,?_⟩;refine hT.mono ?_;clear hT;rintro e w' ⟨rfl,rfl⟩)
 gi_loopw [3,6] (fun _ i wr=>∃ (k:Nat) (pre:List PRnd),k≤m∧i=.int .i64 (k:Nat)∧J pre wr∧Hid (pre.length=k)∧YX base p m F wr∧Boxed wr bc 198 (.pointer (some ⟨p,0,none⟩)))
  (fun _ i _=>m-(intOf i).toNat)
 case atStart=>exact⟨0,[],Nat.zero_le _,rfl,h0,rfl,hs,hbc⟩
 case round=>
  clear hs hbc h0 hcb;obtain⟨k,pre,hk,rfl,hJp,hpl,hs,hbc⟩:=hrel;have hcb:=hbc.cell
  by_cases hlt:k<m
  · have hltI:((k:Nat):Int)<(m:Nat):=by omega
    obtain⟨ls,ds,hll,hP⟩:=hs;have hPA:=hP;obtain⟨L,U,hP⟩:=hP;obtain⟨g,c,u,uc,rfl,rfl,_⟩:=hP.forms;have hc0:=hP.cells.1;obtain⟨z,hsome⟩:∃ z,ls[k]? = some z:=⟨_,List.getElem?_eq_getElem (by omega)⟩;have hcx:wr.cell? ⟨g,k,none⟩=some (.int .i64 z):=JI hP.rl (by simp[VI,i64,hsome]);obtain⟨fn,tmps,assign,body,hy,hR⟩:=hY pre (k,z) wr hJp ⟨(JA hpl).symm,ls,ds,hll,hPA,hsome⟩;dsimp only[VM] at hy;have HS:Hid (YX base p m F wr):=XC ⟨ls,ds,hll,hPA⟩;rw[hll] at hc0;have HL:=XC hll;clear hsome hll hP hPA
    gi_wp2
    refine⟨fun h=>by simp[Fence.wide] at h,hR.mono ?_⟩;rintro e W3 ⟨rfl,hJ3,hb3,hs3⟩;have hs4:=hs3 (JA HS);clear hy hR hc0 hcx HS hs3
    gi_wp2
    go_roundw
    case rel=>exact⟨k+1,_,by omega,by go_num,hJ3,by show _=_;rw[List.length_append,JA hpl];rfl,hs4,hb3 hbc⟩
    case measure=>simp[intOf];omega
  · obtain rfl:k=m:=by omega
    gi_wp2
    go_end0
    exact⟨⟨_,rfl⟩,pre,JA hpl,hJp⟩
end
section
open Go.RowKit Go.Shelf
attribute [local go_sem] Oper.semAt_some
def KeepC (K:List Nat) (W W':World):Prop:=W.heap.size≤W'.heap.size∧∀ k o,k∉K→W.heap[k]? = some o→o.isCells=true→W'.heap[k]? = some o
namespace KeepC
variable {K:List Nat} {A B C:World}
theorem trans (h:KeepC K A B) (k:KeepC K B C):KeepC K A C:=⟨Nat.le_trans h.1 k.1,fun i o hi ho hc=>k.2 i o hi (h.2 i o hi ho hc) hc⟩
theorem putObj (W:World) {l:Nat} {o:Obj} (o':Obj) (hl:W.heap[l]? = some o) (ho:o.isCells=false):KeepC K W (W.putObj l o'):=
 ⟨by rw[World.putObj_size];exact Nat.le_refl _,fun i q _ hq hc=>(World.putObj_heap_other (by rintro rfl;rw[hl] at hq;cases hq;rw[ho] at hc;cases hc)).trans hq⟩
theorem ofKeep {l:List Nat} (h:Keep l A B) (hl:∀ x∈l,x∈K):KeepC K A B:=⟨h.size,fun i o hi ho _=>(h.block i (Array.getElem?_eq_some_iff.1 ho).1 (fun hm=>hi (hl i hm))).trans ho⟩
theorem box {b:Nat} {t:TypeId} {v:Value} (h:KeepC K A B) (hb:Boxed A b t v) (hK:b∉K):Boxed B b t v:=h.2 b _ hK hb rfl
theorem blk {b:Nat} {t:TypeId} {cs:Array Value} (h:KeepC K A B) (hb:Blk A b t cs) (hK:b∉K):Blk B b t cs:=h.2 b _ hK hb rfl
theorem own {base n s:Nat} {e:TypeId} {v:Value} {xs:List Value} (h:KeepC K A B) (hv:A.ownsRow base e s v n xs) (hK:∀ g∈v.ownBlock.toList,g∉K):B.ownsRow base e s v n xs:=by
 refine⟨hv.1,?_⟩;rcases hv.2 with hv | ⟨g,cap,cur,rfl,hb,hg,r⟩
 · exact .inl hv
 · exact .inr ⟨g,cap,cur,rfl,hb,h.2 g _ (hK g (by simp[Value.ownBlock])) hg rfl,r⟩
theorem paged {base p:Nat} {L U:Value} {F:List Nat} {l:List Int} {ds:List Bool} (h:KeepC K A B) (hp:PagedIs A base p L U F l ds) (hK:∀ g∈F,g∉K):PagedIs B base p L U F l ds:=by
 have hf:=hp.foot;exact⟨h.blk hp.blk (hK p (by simp[hf])),h.own hp.rl (fun g hg=>hK g (by rw[hf];simp only[List.mem_cons,List.mem_append];exact .inr (.inl hg))),h.own hp.rd (fun g hg=>hK g (by rw[hf];simp only[List.mem_cons,List.mem_append];exact .inr (.inr hg))),hf,hp.base,hp.pos,hp.few,hp.pages⟩
theorem image {base m p1 p2:Nat} {F F1 F2:List Nat} {I:PImage} (h:KeepC K A B) (hp:ImageIs A base m p1 p2 F F1 F2 I) (hK:∀ g∈F,g∉K):ImageIs B base m p1 p2 F F1 F2 I:=by
 obtain⟨L1,U1,q1⟩:=hp.b;obtain⟨L2,U2,q2⟩:=hp.o;exact⟨h.blk hp.blk (hK m (by rw[hp.foot];simp)),⟨L1,U1,h.paged q1 (fun g hg=>hK g (hp.subB g hg))⟩,⟨L2,U2,h.paged q2 (fun g hg=>hK g (hp.subO g hg))⟩,hp.apart,hp.m1,hp.m2,hp.foot,hp.base,hp.ok⟩
end KeepC
theorem ImageIs.putObjR {W:World} {base m p1 p2 k:Nat} {F F1 F2:List Nat} {I:PImage} {o:Obj} (h:ImageIs W base m p1 p2 F F1 F2 I) (o':Obj) (hl:W.heap[k]? = some o) (ho:o.isCells=false):ImageIs (W.putObj k o') base m p1 p2 F F1 F2 I:=
 (KeepC.putObj (K:=[]) W o' hl ho).image h (by simp)
theorem QJ {n m l l':Nat} {P:Program} {f:FuncId} {tmps:Array Value} {assign body:Code} {w:World} {R:Ending→World→Prop} (h:RoundIn Fence.wide n P l f tmps assign body w R):RoundIn (Fence.wide.inRound l') m P l f tmps assign body w R:=
 ⟨h.1,fun c cs _=>h.2 c cs (room_wide _)⟩
theorem PagedIs.unique_of {W:World} {base p:Nat} {L U L' U':Value} {F F':List Nat} {l l':List Int} {ds ds':List Bool} (h:PagedIs W base p L U F l ds) (h':PagedIs W base p L' U' F' l' ds'):l=l':=by
 have e:=h.blk.symm.trans h'.blk;simp at e;obtain⟨rfl,rfl⟩:=e;have hf:F=F':=h.foot.trans h'.foot.symm;subst hf;exact h.unique h'
def KeepR (K:List Nat) (N:Nat) (A B:World):Prop:=KeepC K A B∧KeepsFrom N A B
theorem KeepR.trans {K:List Nat} {N:Nat} {A B C:World} (h:KeepR K N A B) (k:KeepR K N B C):KeepR K N A C:=⟨h.1.trans k.1,Nat.le_trans h.2.size k.2.size,fun i o hi ho hc=>k.2.same i o hi (h.2.same i o hi ho hc) hc⟩
theorem KeepR.putObj {K:List Nat} {N:Nat} {W:World} {l:Nat} {o o':Obj} (hN:l<N) (hl:W.heap[l]? = some o) (ho:o.isCells=false):KeepR K N W (W.putObj l o'):=
 ⟨KeepC.putObj W o' hl ho,by rw[World.putObj_size];exact Nat.le_refl _,fun i q hi hq _=>(World.putObj_heap_other (by omega)).trans hq⟩
def VJ (bl ol:List Int):Nat→List PRnd
 | 0=>[]
 | k+1=>VJ bl ol k++((if 0<bl.getD k 0 then [(k,bl.getD k 0)] else [])++(if 0<ol.getD k 0 then [(k,ol.getD k 0)] else []))
theorem QAV (n:Nat) (v:Value) (w:World) (hv:v.oneCell'=true) :
 CallsIn Fence.wide n Tryz.prog 58 #[v] w fun e w'=>e=.returned (.func (.func 123) #[] #[.pointer (some ⟨w.heap.size,0,none⟩)])∧w'=w.alloc (.cells #[v] 46):=by
 refine(callsIn_wide (n:=n)).2 ?_
 go_enter Tryz.func58,Tryz.ntmps58
 go_wp2
 go_ret;exact⟨rfl,rfl⟩
structure KRef (N bm b2 base m p1 p2 l:Nat) (F F1 F2:List Nat) (I:PImage) (J:List PRnd→World→Prop) (pre:List PRnd) (V:World):Prop where
 out:J (VJ I.bl I.ol pre.length) V
 img:ImageIs V base m p1 p2 F F1 F2 I
 bm:Boxed V bm 46 (.pointer (some ⟨m,0,none⟩))
 b2:Boxed V b2 94 (.func (.yield l) #[] #[])
 vals:pre.map (·.2)=I.bl.take pre.length
 size:N≤V.heap.size
theorem KRef.kept {N bm b2 base m p1 p2 l:Nat} {F F1 F2:List Nat} {I:PImage} {J:List PRnd→World→Prop} {pre:List PRnd} {A B:World} (h:KRef N bm b2 base m p1 p2 l F F1 F2 I J pre A) (hJ:∀ s A B,J s A→Keep [] A B→J s B) (hk:Keep [] A B):KRef N bm b2 base m p1 p2 l F F1 F2 I J pre B:=
 ⟨hJ _ _ _ h.out hk,h.img.keep0 hk,KA h.bm hk (by simp),KA h.b2 hk (by simp),h.vals,Nat.le_trans h.size hk.size⟩
theorem KRef.turned {N B bm b2 base m p1 p2 l k:Nat} {F F1 F2:List Nat} {I:PImage} {J:List PRnd→World→Prop} {pre:List PRnd} {V:World} {o o':Obj} (h:KRef N bm b2 base m p1 p2 l F F1 F2 I J pre V) (hJt:∀ s,Ju B (J s)) (hl:B≤k) (hg:V.heap[k]? = some o) (ho:o.isCells=false):KRef N bm b2 base m p1 p2 l F F1 F2 I J pre (V.putObj k o'):=
 ⟨hJt _ _ _ _ _ h.out hl hg ho,h.img.putObjR o' hg ho,ZC o' h.bm hg ho,ZC o' h.b2 hg ho,h.vals,by rw[World.putObj_size];exact h.size⟩
theorem YAc (n bm base m:Nat) (K F:List Nat) (I:PImage) (w:World) (h:ImageAt w base m F I) (hbm:Boxed w bm 46 (.pointer (some ⟨m,0,none⟩))) (hKF:∀ g∈F,g∉K) (hKm:bm∉K) (hKlt:∀ g∈K,g<w.heap.size) :
 QBE n Tryz.prog 123 #[.pointer (some ⟨bm,0,none⟩)] VM (fun _ _ _=>True) (KeepR K (w.heap.size+2)) (fun xs=>xs=VJ I.bl I.ol I.bl.length) w:=by
 obtain⟨p1,p2,F1,F2,h⟩:=h;intro l J W hW hW2 hJ hJt hY h0;have hsz:=hW.size;replace h:=h.keep0 hW;replace hbm:Boxed W bm 46 (.pointer (some ⟨m,0,none⟩)):=(hW.block bm hbm.lt (by simp)).trans hbm;refine callsIn_of_wp_marks Tryz.func123 rfl trivial ?_ rfl;simp only[Tryz.ntmps123,List.size_toArray,List.length_cons,List.length_nil,Nat.reduceAdd,Nat.reduceSub,Array.replicate_succ,Array.replicate_zero,List.push_toArray,List.append_toArray,List.nil_append,List.cons_append];have hcm:=hbm.cell;have hbml:=hbm.lt;have hT:=fun W' (hk:Keep [] W W')=>callsIn_wide (n:=n-1).2 (XM W' base m p1 p2 F F1 F2 I (h.keep0 hk) false)
 gi_wp2_with (first
  | (refine⟨trivial,fun h=>by simp[Fence.wide] at h,?_⟩;refine(hT _ ((Keep.refl _ _).alloc _)).mono ?_;rintro e w' ⟨rfl,rfl⟩)
  | (refine⟨trivial,fun h=>by simp[Fence.wide] at h,?_⟩;refine(Xs _ _ _ rfl).mono ?_;rintro e w' ⟨rfl,rfl⟩))
 obtain⟨w1,hw1⟩:∃ w1,w1=W.alloc (.cells #[.func (.yield l) #[] #[]] 94):=⟨_,rfl⟩;obtain⟨w2,hw2⟩:∃ w2,w2=w1.alloc (.cells #[.pointer (some ⟨p1,0,none⟩)] 198):=⟨_,rfl⟩;rw[← hw1,← hw2];have s1:w1.heap.size=W.heap.size+1:=by rw[hw1,World.size_alloc]
 have s2:w2.heap.size=W.heap.size+2:=by rw[hw2,World.size_alloc,s1]
 have k1:Keep [] W w1:=by rw[hw1];exact(Keep.refl _ _).alloc _
 have k2:Keep [] w1 w2:=by rw[hw2];exact(Keep.refl _ _).alloc _
 have kw:Keep [] W w2:=k1.trans0 k2;have b2:Boxed w2 W.heap.size 94 (.func (.yield l) #[] #[]):=KA (by rw[hw1];exact Boxed.new W _ _) k2 (by simp);have bc:Boxed w2 (W.heap.size+1) 198 (.pointer (some ⟨p1,0,none⟩)):=by rw[hw2,← s1];exact Boxed.new w1 _ _
 have hi0:KRef w2.heap.size bm W.heap.size base m p1 p2 l F F1 F2 I J [] w2:=⟨hJ _ _ _ h0 kw,h.keep0 kw,KA hbm kw (by simp),b2,rfl,Nat.le_refl _⟩;obtain⟨L,U,hP⟩:=h.b;have hlt:=h.lt;have hseq:=Kl (n-1) (W.heap.size+1) base p1 I.bl.length L U F1 w2 ⟨I.bl,I.bd,rfl,hP.keep0 kw⟩ bc
 refine QO (n:=n) (gf:=208) (lb:=#[.pointer (some ⟨W.heap.size+1,0,none⟩)]) rfl (enters_of Tryz.func208 (by kernel_rfl) rfl)
  hseq
  (fun A B C h k=>⟨fun hb=>k.1 (h.1 hb),fun hb=>k.2 (h.2 hb)⟩)
  (fun W l o o' hl hg' ho=>⟨fun hb=>ZC o' hb hg' ho,fun⟨ls,ds,q1,q2⟩=>⟨ls,ds,q1,q2.putObj o' hg' ho⟩⟩)
  (fun _=>rfl) (KRef w2.heap.size bm W.heap.size base m p1 p2 l F F1 F2 I J) (fun s A B h hk=>h.kept hJ hk) (fun s V l o o' h hl hg' ho=>h.turned hJt (by omega) hg' ho)
  (fun pre x W l o o' h hl hg' ho=>⟨h.1,by obtain⟨ls,ds,q1,q2,q3⟩:=h.2;exact⟨ls,ds,q1,q2.putObj o' hg' ho,q3⟩⟩) hi0
  (fun x=>{ tmps:=#[.func (.yield l) #[] #[],.pointer (some ⟨bm,0,none⟩),.pointer (some ⟨W.heap.size,0,none⟩),.int .i64 (x.1:Nat),.int .i64 x.2,undef,undef,.pointer (some ⟨m,0,none⟩),.pointer (some ⟨p1,0,none⟩),
    .func (.func 208) #[] #[.pointer (some ⟨W.heap.size+1,0,none⟩)],.int .i64 (x.1:Nat),.int .i64 x.2,undef,undef,undef,undef,undef,undef,undef,undef,undef,undef,undef,undef,undef,undef,undef,undef,undef,undef,undef,undef,undef,undef,undef,undef,undef,undef,undef,undef,undef],defers:=[] }) ?assign ?body ?done
 case assign=>
  rintro l' ⟨k,z⟩ V K' hK;dsimp only[VM] at hK ⊢
  gi_wp2
  exact hK
 case body=>
  rintro l' pre ⟨k,z⟩ V hI ⟨hk,ls,ds,q1,q2,q3⟩;dsimp only at hk q3 ⊢;obtain⟨L1,U1,hPb⟩:=hI.img.b
  have hkl:k<I.ol.length:=by
   have:=(List.getElem?_eq_some_iff.1 q3).1;rw[← hI.img.ok.1];omega
  have hG:=callsIn_wide (n:=n-1-1-1).2 (Xe V base p2 F2 I.ol I.od hI.img.o k hkl);have hcm:=hI.bm.cell;have hc2:=hI.b2.cell;have hp2:=hI.img.cells.2;obtain⟨y,hy⟩:∃ y,y=I.ol[k]:=⟨_,rfl⟩;rw[← hy] at hG;have HY:=XC hy;have HI:=XC hI;have HK:=XC hk;have HQ:=XC q3;have HQ1:=XC q1;have HQ2:=XC q2;clear hi0 b2 bc kw k1 k2 hw1 hw2 hseq hI q3 hy h0 hk q1 q2;have hI:=JA HI
  have hstep:∀ ys V',J (VJ I.bl I.ol pre.length++ys) V'→KeepR K (w.heap.size+2) V V'→ys=((if 0<z then [(k,z)] else [])++(if 0<y then [(k,y)] else [])) →
   Qz w2.heap.size (ZAW base p1 I.bl.length (W.heap.size+1) L U F1) (KRef w2.heap.size bm W.heap.size base m p1 p2 l F F1 F2 I J (pre++[(k,z)])) V .normal { tmps:=#[],defers:=[] } V':=fun ys V' hJ' hk' hys=>by
   have hk:=JA HK;have q3:=JA HQ
   have hsame:ls=I.bl:=by
    obtain⟨Lb,Ub,hPb'⟩:=hI.img.b;exact(JA HQ2).unique_of hPb'
   rw[hsame] at q3;have hkl':=(List.getElem?_eq_some_iff.1 q3).1;have hzb:I.bl.getD k 0=z:=by rw[List.getD_eq_getElem?_getD,q3];rfl
   have hyo:I.ol.getD k 0=y:=by rw[Ki hkl,JA HY]
   have hK2:W.heap.size∉K:=fun hm=>by have:=hKlt _ hm;omega
   have hK3:W.heap.size+1∉K:=fun hm=>by have:=hKlt _ hm;omega
   refine⟨⟨hk'.2.size,fun i o hi ho hc=>hk'.2.same i o (by omega) ho hc⟩,⟨fun hb=>hk'.1.box hb hK3,fun⟨ls',ds',r1,r2⟩=>⟨ls',ds',r1,hk'.1.paged r2 (fun g hg=>hKF g (h.subB g hg))⟩⟩,⟨?_,hk'.1.image hI.img hKF,hk'.1.box hI.bm hKm,hk'.1.box hI.b2 hK2,?_,Nat.le_trans hI.size hk'.1.1⟩⟩
   · have e:VJ I.bl I.ol (pre.length+1)=VJ I.bl I.ol pre.length++ys:=by rw[hys,VJ,← hk,hzb,hyo]
     rw[List.length_append,List.length_singleton,e];exact hJ'
   · rw[List.map_append,hI.vals,List.length_append,List.length_singleton,← hk,List.take_succ_eq_append_getElem hkl']
     rw[List.getElem?_eq_getElem hkl'] at q3;rw[show I.bl[k]=z by simpa using q3];rfl
  have HST:=XC hstep;clear hstep hI;have hK2:W.heap.size∉K:=fun hm=>by have:=hKlt _ hm;omega
  by_cases hz:0<z
  · by_cases hyp:0<y
    · obtain⟨fn,tmps,assign,body,hy1,hR1⟩:=hY (VJ I.bl I.ol pre.length) (k,z) V (JA HI).out trivial
      dsimp only[VM] at hy1
      gi_wp2_with (refine⟨trivial,fun h=>by simp[Fence.wide] at h,?_⟩;refine hG.mono ?_;clear hG;rintro e w' ⟨rfl,rfl⟩)
      refine⟨fun h=>by simp[Fence.wide] at h,(QJ hR1).mono ?_⟩;rintro e V1 ⟨rfl,hJ1,hk1⟩;obtain⟨fn2,tmps2,assign2,body2,hy2,hR2⟩:=hY (VJ I.bl I.ol pre.length++[(k,z)]) (k,y) V1 hJ1 trivial;dsimp only[VM] at hy2;have hb2V:=hk1.1.box (JA HI).b2 hK2;have hc2':=hb2V.cell;clear hy1 hR1 hcm hc2 hp2
      gi_wp2
      refine⟨fun h=>by simp[Fence.wide] at h,(QJ hR2).mono ?_⟩;rintro e V2 ⟨rfl,hJ2,hk2⟩;clear hy2 hR2
      gi_wp2
      exact JA HST ([(k,z)]++[(k,y)]) V2 (by rw[← List.append_assoc];exact hJ2) (hk1.trans hk2) (by rw[if_pos hz,if_pos hyp])
    · obtain⟨fn,tmps,assign,body,hy1,hR1⟩:=hY (VJ I.bl I.ol pre.length) (k,z) V (JA HI).out trivial
      dsimp only[VM] at hy1
      gi_wp2_with (refine⟨trivial,fun h=>by simp[Fence.wide] at h,?_⟩;refine hG.mono ?_;clear hG;rintro e w' ⟨rfl,rfl⟩)
      refine⟨fun h=>by simp[Fence.wide] at h,(QJ hR1).mono ?_⟩;rintro e V1 ⟨rfl,hJ1,hk1⟩;clear hy1 hR1 hcm hc2 hp2
      gi_wp2
      refine⟨fun f h=>(by cases h),?_⟩
      gi_wp2
      exact JA HST [(k,z)] V1 hJ1 hk1 (by rw[if_pos hz,if_neg (by omega)];rfl)
  · by_cases hyp:0<y
    · obtain⟨fn,tmps,assign,body,hy1,hR1⟩:=hY (VJ I.bl I.ol pre.length) (k,y) V (JA HI).out trivial
      dsimp only[VM] at hy1
      gi_wp2_with (refine⟨trivial,fun h=>by simp[Fence.wide] at h,?_⟩;refine hG.mono ?_;clear hG;rintro e w' ⟨rfl,rfl⟩)
      refine⟨fun f h=>(by cases h),?_⟩
      gi_wp2
      refine⟨fun h=>by simp[Fence.wide] at h,(QJ hR1).mono ?_⟩;rintro e V1 ⟨rfl,hJ1,hk1⟩;clear hy1 hR1 hcm hc2 hp2
      gi_wp2
      exact JA HST [(k,y)] V1 hJ1 hk1 (by rw[if_neg (by omega),if_pos hyp];rfl)
    · gi_wp2_with (refine⟨trivial,fun h=>by simp[Fence.wide] at h,?_⟩;refine hG.mono ?_;clear hG;rintro e w' ⟨rfl,rfl⟩)
      refine⟨fun f h=>(by cases h),?_⟩
      gi_wp2
      rw[← s2];exact JA HST [] V (by rw[List.append_nil];exact(JA HI).out) ⟨KeepC.ofKeep (Keep.refl [] V) (by simp),Nat.le_refl _,fun i o _ ho _=>ho⟩ (by rw[if_neg (by omega),if_neg (by omega)];rfl)
 case done=>
  intro D' xs V hD' hS hI hdef;have HI:=XC hI;clear hi0 b2 bc kw k1 k2 hw1 hw2 hseq hI h0
  gi_wp2
  have hI:=JA HI;refine⟨by simp,.inl ⟨_,_,rfl,run_takeDeferred hdef,?_⟩⟩;refine⟨.tuple #[],?_,⟨_,rfl⟩,_,rfl,?_⟩
  · simp[results,Tryz.results123,go_sem]
  · have:=hJt _ _ _ _ (.deferred none) hI.out (by omega) hdef rfl
    rwa [hS] at this
end
section
open Go.RowKit Go.Shelf
attribute [local go_sem] Oper.semAt_some
def KBE (I:PImage) (x:PRnd):Prop:=0<x.2∧(I.bl.getD x.1 0=x.2∨I.ol.getD x.1 0=x.2)
theorem QAQ (n bm base m:Nat) (K F:List Nat) (I:PImage) (w:World) (h:ImageAt w base m F I) (hbm:Boxed w bm 46 (.pointer (some ⟨m,0,none⟩))) (hKF:∀ g∈F,g∉K) (hKm:bm∉K) (hKlt:∀ g∈K,g<w.heap.size) :
 QBE n Tryz.prog 123 #[.pointer (some ⟨bm,0,none⟩)] VM (fun _ x _=>KBE I x) (KeepR K (w.heap.size+2)) (fun xs=>xs=VJ I.bl I.ol I.bl.length) w:=by
 obtain⟨p1,p2,F1,F2,h⟩:=h;intro l J W hW hW2 hJ hJt hY h0;have hsz:=hW.size;replace h:=h.keep0 hW;replace hbm:Boxed W bm 46 (.pointer (some ⟨m,0,none⟩)):=(hW.block bm hbm.lt (by simp)).trans hbm;refine callsIn_of_wp_marks Tryz.func123 rfl trivial ?_ rfl;simp only[Tryz.ntmps123,List.size_toArray,List.length_cons,List.length_nil,Nat.reduceAdd,Nat.reduceSub,Array.replicate_succ,Array.replicate_zero,List.push_toArray,List.append_toArray,List.nil_append,List.cons_append];have hcm:=hbm.cell;have hbml:=hbm.lt;have hT:=fun W' (hk:Keep [] W W')=>callsIn_wide (n:=n-1).2 (XM W' base m p1 p2 F F1 F2 I (h.keep0 hk) false)
 gi_wp2_with (first
  | (refine⟨trivial,fun h=>by simp[Fence.wide] at h,?_⟩;refine(hT _ ((Keep.refl _ _).alloc _)).mono ?_;rintro e w' ⟨rfl,rfl⟩)
  | (refine⟨trivial,fun h=>by simp[Fence.wide] at h,?_⟩;refine(Xs _ _ _ rfl).mono ?_;rintro e w' ⟨rfl,rfl⟩))
 obtain⟨w1,hw1⟩:∃ w1,w1=W.alloc (.cells #[.func (.yield l) #[] #[]] 94):=⟨_,rfl⟩;obtain⟨w2,hw2⟩:∃ w2,w2=w1.alloc (.cells #[.pointer (some ⟨p1,0,none⟩)] 198):=⟨_,rfl⟩;rw[← hw1,← hw2];have s1:w1.heap.size=W.heap.size+1:=by rw[hw1,World.size_alloc]
 have s2:w2.heap.size=W.heap.size+2:=by rw[hw2,World.size_alloc,s1]
 have k1:Keep [] W w1:=by rw[hw1];exact(Keep.refl _ _).alloc _
 have k2:Keep [] w1 w2:=by rw[hw2];exact(Keep.refl _ _).alloc _
 have kw:Keep [] W w2:=k1.trans0 k2;have b2:Boxed w2 W.heap.size 94 (.func (.yield l) #[] #[]):=KA (by rw[hw1];exact Boxed.new W _ _) k2 (by simp);have bc:Boxed w2 (W.heap.size+1) 198 (.pointer (some ⟨p1,0,none⟩)):=by rw[hw2,← s1];exact Boxed.new w1 _ _
 have hi0:KRef w2.heap.size bm W.heap.size base m p1 p2 l F F1 F2 I J [] w2:=⟨hJ _ _ _ h0 kw,h.keep0 kw,KA hbm kw (by simp),b2,rfl,Nat.le_refl _⟩;obtain⟨L,U,hP⟩:=h.b;have hlt:=h.lt;have hseq:=Kl (n-1) (W.heap.size+1) base p1 I.bl.length L U F1 w2 ⟨I.bl,I.bd,rfl,hP.keep0 kw⟩ bc
 refine QO (n:=n) (gf:=208) (lb:=#[.pointer (some ⟨W.heap.size+1,0,none⟩)]) rfl (enters_of Tryz.func208 (by kernel_rfl) rfl)
  hseq
  (fun A B C h k=>⟨fun hb=>k.1 (h.1 hb),fun hb=>k.2 (h.2 hb)⟩)
  (fun W l o o' hl hg' ho=>⟨fun hb=>ZC o' hb hg' ho,fun⟨ls,ds,q1,q2⟩=>⟨ls,ds,q1,q2.putObj o' hg' ho⟩⟩)
  (fun _=>rfl) (KRef w2.heap.size bm W.heap.size base m p1 p2 l F F1 F2 I J) (fun s A B h hk=>h.kept hJ hk) (fun s V l o o' h hl hg' ho=>h.turned hJt (by omega) hg' ho)
  (fun pre x W l o o' h hl hg' ho=>⟨h.1,by obtain⟨ls,ds,q1,q2,q3⟩:=h.2;exact⟨ls,ds,q1,q2.putObj o' hg' ho,q3⟩⟩) hi0
  (fun x=>{ tmps:=#[.func (.yield l) #[] #[],.pointer (some ⟨bm,0,none⟩),.pointer (some ⟨W.heap.size,0,none⟩),.int .i64 (x.1:Nat),.int .i64 x.2,undef,undef,.pointer (some ⟨m,0,none⟩),.pointer (some ⟨p1,0,none⟩),
    .func (.func 208) #[] #[.pointer (some ⟨W.heap.size+1,0,none⟩)],.int .i64 (x.1:Nat),.int .i64 x.2,undef,undef,undef,undef,undef,undef,undef,undef,undef,undef,undef,undef,undef,undef,undef,undef,undef,undef,undef,undef,undef,undef,undef,undef,undef,undef,undef,undef,undef],defers:=[] }) ?assign ?body ?done
 case assign=>
  rintro l' ⟨k,z⟩ V K' hK;dsimp only[VM] at hK ⊢
  gi_wp2
  exact hK
 case body=>
  rintro l' pre ⟨k,z⟩ V hI ⟨hk,ls,ds,q1,q2,q3⟩;dsimp only at hk q3 ⊢;obtain⟨L1,U1,hPb⟩:=hI.img.b
  have hkl:k<I.ol.length:=by
   have:=(List.getElem?_eq_some_iff.1 q3).1;rw[← hI.img.ok.1];omega
  have hG:=callsIn_wide (n:=n-1-1-1).2 (Xe V base p2 F2 I.ol I.od hI.img.o k hkl);have hcm:=hI.bm.cell;have hc2:=hI.b2.cell;have hp2:=hI.img.cells.2
  have hzb0:I.bl.getD k 0=z:=by
   obtain⟨Lb,Ub,hPb'⟩:=hI.img.b;have q3':=q3;rw[q2.unique_of hPb'] at q3';rw[List.getD_eq_getElem?_getD,q3'];rfl
  have HZB:=XC hzb0;clear hzb0;obtain⟨y,hy⟩:∃ y,y=I.ol[k]:=⟨_,rfl⟩;rw[← hy] at hG;have HY:=XC hy;have HYO:Hid (I.ol.getD k 0=y):=XC (by rw[Ki hkl,hy]);have HI:=XC hI;have HK:=XC hk;have HQ:=XC q3;have HQ1:=XC q1;have HQ2:=XC q2;clear hi0 b2 bc kw k1 k2 hw1 hw2 hseq hI q3 hy h0 hk q1 q2;have hI:=JA HI
  have hstep:∀ ys V',J (VJ I.bl I.ol pre.length++ys) V'→KeepR K (w.heap.size+2) V V'→ys=((if 0<z then [(k,z)] else [])++(if 0<y then [(k,y)] else [])) →
   Qz w2.heap.size (ZAW base p1 I.bl.length (W.heap.size+1) L U F1) (KRef w2.heap.size bm W.heap.size base m p1 p2 l F F1 F2 I J (pre++[(k,z)])) V .normal { tmps:=#[],defers:=[] } V':=fun ys V' hJ' hk' hys=>by
   have hk:=JA HK;have q3:=JA HQ
   have hsame:ls=I.bl:=by
    obtain⟨Lb,Ub,hPb'⟩:=hI.img.b;exact(JA HQ2).unique_of hPb'
   rw[hsame] at q3;have hkl':=(List.getElem?_eq_some_iff.1 q3).1;have hzb:I.bl.getD k 0=z:=by rw[List.getD_eq_getElem?_getD,q3];rfl
   have hyo:I.ol.getD k 0=y:=by rw[Ki hkl,JA HY]
   have hK2:W.heap.size∉K:=fun hm=>by have:=hKlt _ hm;omega
   have hK3:W.heap.size+1∉K:=fun hm=>by have:=hKlt _ hm;omega
   refine⟨⟨hk'.2.size,fun i o hi ho hc=>hk'.2.same i o (by omega) ho hc⟩,⟨fun hb=>hk'.1.box hb hK3,fun⟨ls',ds',r1,r2⟩=>⟨ls',ds',r1,hk'.1.paged r2 (fun g hg=>hKF g (h.subB g hg))⟩⟩,⟨?_,hk'.1.image hI.img hKF,hk'.1.box hI.bm hKm,hk'.1.box hI.b2 hK2,?_,Nat.le_trans hI.size hk'.1.1⟩⟩
   · have e:VJ I.bl I.ol (pre.length+1)=VJ I.bl I.ol pre.length++ys:=by rw[hys,VJ,← hk,hzb,hyo]
     rw[List.length_append,List.length_singleton,e];exact hJ'
   · rw[List.map_append,hI.vals,List.length_append,List.length_singleton,← hk,List.take_succ_eq_append_getElem hkl']
     rw[List.getElem?_eq_getElem hkl'] at q3;rw[show I.bl[k]=z by simpa using q3];rfl
  have HST:=XC hstep;clear hstep hI;have hK2:W.heap.size∉K:=fun hm=>by have:=hKlt _ hm;omega
  by_cases hz:0<z
  · by_cases hyp:0<y
    · obtain⟨fn,tmps,assign,body,hy1,hR1⟩:=hY (VJ I.bl I.ol pre.length) (k,z) V (JA HI).out ⟨hz,.inl (JA HZB)⟩
      dsimp only[VM] at hy1
      gi_wp2_with (refine⟨trivial,fun h=>by simp[Fence.wide] at h,?_⟩;refine hG.mono ?_;clear hG;rintro e w' ⟨rfl,rfl⟩)
      refine⟨fun h=>by simp[Fence.wide] at h,(QJ hR1).mono ?_⟩;rintro e V1 ⟨rfl,hJ1,hk1⟩;obtain⟨fn2,tmps2,assign2,body2,hy2,hR2⟩:=hY (VJ I.bl I.ol pre.length++[(k,z)]) (k,y) V1 hJ1 ⟨hyp,.inr (JA HYO)⟩;dsimp only[VM] at hy2;have hb2V:=hk1.1.box (JA HI).b2 hK2;have hc2':=hb2V.cell;clear hy1 hR1 hcm hc2 hp2
      gi_wp2
      refine⟨fun h=>by simp[Fence.wide] at h,(QJ hR2).mono ?_⟩;rintro e V2 ⟨rfl,hJ2,hk2⟩;clear hy2 hR2
      gi_wp2
      exact JA HST ([(k,z)]++[(k,y)]) V2 (by rw[← List.append_assoc];exact hJ2) (hk1.trans hk2) (by rw[if_pos hz,if_pos hyp])
    · obtain⟨fn,tmps,assign,body,hy1,hR1⟩:=hY (VJ I.bl I.ol pre.length) (k,z) V (JA HI).out ⟨hz,.inl (JA HZB)⟩
      dsimp only[VM] at hy1
      gi_wp2_with (refine⟨trivial,fun h=>by simp[Fence.wide] at h,?_⟩;refine hG.mono ?_;clear hG;rintro e w' ⟨rfl,rfl⟩)
      refine⟨fun h=>by simp[Fence.wide] at h,(QJ hR1).mono ?_⟩;rintro e V1 ⟨rfl,hJ1,hk1⟩;clear hy1 hR1 hcm hc2 hp2
      gi_wp2
      refine⟨fun f h=>(by cases h),?_⟩
      gi_wp2
      exact JA HST [(k,z)] V1 hJ1 hk1 (by rw[if_pos hz,if_neg (by omega)];rfl)
  · by_cases hyp:0<y
    · obtain⟨fn,tmps,assign,body,hy1,hR1⟩:=hY (VJ I.bl I.ol pre.length) (k,y) V (JA HI).out ⟨hyp,.inr (JA HYO)⟩
      dsimp only[VM] at hy1
      gi_wp2_with (refine⟨trivial,fun h=>by simp[Fence.wide] at h,?_⟩;refine hG.mono ?_;clear hG;rintro e w' ⟨rfl,rfl⟩)
      refine⟨fun f h=>(by cases h),?_⟩
      gi_wp2
      refine⟨fun h=>by simp[Fence.wide] at h,(QJ hR1).mono ?_⟩;rintro e V1 ⟨rfl,hJ1,hk1⟩;clear hy1 hR1 hcm hc2 hp2
      gi_wp2
      exact JA HST [(k,y)] V1 hJ1 hk1 (by rw[if_neg (by omega),if_pos hyp];rfl)
    · gi_wp2_with (refine⟨trivial,fun h=>by simp[Fence.wide] at h,?_⟩;refine hG.mono ?_;clear hG;rintro e w' ⟨rfl,rfl⟩)
      refine⟨fun f h=>(by cases h),?_⟩
      gi_wp2
      rw[← s2];exact JA HST [] V (by rw[List.append_nil];exact(JA HI).out) ⟨KeepC.ofKeep (Keep.refl [] V) (by simp),Nat.le_refl _,fun i o _ ho _=>ho⟩ (by rw[if_neg (by omega),if_neg (by omega)];rfl)
 case done=>
  intro D' xs V hD' hS hI hdef;have HI:=XC hI;clear hi0 b2 bc kw k1 k2 hw1 hw2 hseq hI h0
  gi_wp2
  have hI:=JA HI;refine⟨by simp,.inl ⟨_,_,rfl,run_takeDeferred hdef,?_⟩⟩;refine⟨.tuple #[],?_,⟨_,rfl⟩,_,rfl,?_⟩
  · simp[results,Tryz.results123,go_sem]
  · have:=hJt _ _ _ _ (.deferred none) hI.out (by omega) hdef rfl
    rwa [hS] at this
theorem QAO (n bm base m:Nat) (F:List Nat) (I:PImage) (w:World) (h:ImageAt w base m F I) (hbm:Boxed w bm 46 (.pointer (some ⟨m,0,none⟩))) (hno:∀ k,I.bl.getD k 0≤0∧I.ol.getD k 0≤0) (l:Nat) (W:World) (hW:Keep [] w W) (hW2:w.heap.size+2≤W.heap.size) :
 CallsIn Fence.wide n Tryz.prog 123 (#[.func (.yield l) #[] #[]]++#[.pointer (some ⟨bm,0,none⟩)]) W fun e W'=>(∃ v,e=.returned v)∧Keep [] W W':=by
 refine(QAQ n bm base m [] F I w h hbm (by simp) (by simp) (by simp) l (fun pre V=>pre=[]∧Keep [] W V) W hW hW2 (fun s A B h hk=>⟨h.1,h.2.trans0 hk⟩) (fun s V k o o' h hl hg ho=>⟨h.1,h.2.putObj hl o'⟩) (fun pre x W1 h hF=>?_) ⟨rfl,Keep.refl _ _⟩).mono ?_
 · obtain⟨h1,h2⟩:=hF
   have:=hno x.1;rcases h2 with h2 | h2 <;> omega
 · rintro e W' ⟨h1,xs,_,h2⟩
   exact⟨h1,h2.2⟩
end
end Go.Proofs.YtkonbpfbjiepfaaGreat
