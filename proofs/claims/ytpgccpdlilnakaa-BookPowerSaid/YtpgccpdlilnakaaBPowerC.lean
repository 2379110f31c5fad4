/-
  Part 3 of the proof: a machine over named blocks, what each function computes, and what follows. No condition.
-/
import Derived.ReadAgain
import Derived.ChangeSame
import Derived.SizedLaws
import Derived.OpenShut
import Derived.ProofKit
import Derived.Defers
import Derived.Recover
import Derived.RangeFuncNested
import Derived.Test.YtpgccpdlilnakaaBPowerB
set_option linter.unusedVariables false
set_option linter.unusedSimpArgs false
set_option linter.all false
namespace Go.Abs
open Go Go.RowKit
def Zd0 (B:Nat) (P:Program) (t:TypeId) {α:Type} (E:α→List AV) (Q:α→Prop):Prop:=
 ∀ (w:World) (H:Type) (enc:TypeId×Value→H) (fuel:Nat) (cs:List Value) (x:DataW H×List MemPlace),
  DataW.trod enc P w 0 (fun _=>true) true fuel t cs=some x→(∀ n∈x.1.weights P t,n≤B)→∃ a,Q a∧VRs (ZfG w) [] (E a) cs∧(∀ y∈E a,y.flat=true)
def Zj8 (n:Int):Prop:=-9223372036854775808≤n∧n≤9223372036854775807
section
variable {B:Nat}{P:Program}{t:TypeId}
theorem VRs.one {fm:FM}{ts:List Tie}{x:AV}{v:Value} (h:VR fm ts x v):VRs fm ts [x] [v]:=by
 refine⟨rfl,?_⟩
 intro i a b h1 h2
 cases i with
 |zero=>cases h1;cases h2;exact h
 |succ i=>simp at h1
theorem Zd0.int (ht:P.underlying t=some (.int .i64)):Zd0 B P t eI Zj8:=by
 intro w H enc fuel cs x h hsz
 cases fuel with
 |zero=>simp[DataW.trod]at h
 |succ n=>
  rw[DataW.trod_step]at h
  unfold DataW.trodStep at h
  rw[ht]at h
  split at h
  case h_2 k k' m e=>
   cases e
   split at h
   ·rename_i hk
    obtain⟨rfl,hw⟩:=hk
    refine⟨m,?_,VRs.one (.int _ _),by simp[eI,AV.flat]⟩
    simpa [Lit.wf,IntKind.min,IntKind.max,IntKind.signed,IntKind.bits,Zj8] using hw
   ·cases h
  all_goals first|(cases h;done)|(rename_i e;cases e;done)
theorem Zjx {w:World}{a:Addr}{n:Nat}{cs:List Value} (h:w.cells? 0 a n=some cs):cs.length=n∧∀ o,o<n→∃ v,cs[o]?=some v∧w.cell? (a.add o)=some v:=by
 unfold World.cells? at h
 rw[if_pos (Nat.zero_le _)]at h
 have hl:cs.length=n:=by simpa using mapM_some_length h
 refine⟨hl,fun o ho=>?_⟩
 have hg:=mapM_some_get h o o (by simp[ho])
 have:o<cs.length:=by omega
 rw[gG this]at hg ⊢
 exact⟨_,rfl,hg⟩
theorem ZfV {H:Type}{e:TypeId}:∀ {ds:List (DataW H)}{d:DataW H},d∈ds→∀ n∈d.weights P e,n∈DataW.weightsAll P e ds
 |d0::ds,d,h,n,hn=>by
  simp only[DataW.weightsAll,List.mem_append]
  rcases List.mem_cons.1 h with rfl|h
  ·exact .inl hn
  ·exact .inr (ZfV h n hn)
theorem Zd0.slice {α:Type}{e:TypeId}{sz bt:Nat}{E:α→List AV}{Q:α→Prop} (ht:P.underlying t=some (.slice e)) (hs:P.cellsOf e=sz) (hbt:P.bytesOf e=bt) (h0:0<sz) (he:Zd0 B P e E Q):
  Zd0 B P t (eL sz E) (fun l=>l.length≤Go.maxLen∧l.length*bt≤B∧∀ a∈l,Q a):=by
 intro w H enc fuel cs x h hsz
 cases fuel with
 |zero=>simp[DataW.trod]at h
 |succ n=>
  rw[DataW.trod_step]at h
  unfold DataW.trodStep at h
  rw[ht]at h
  split at h
  case h_7 e2 hq=>exact⟨[],⟨by simp,by simp,by simp⟩,VRs.one (.slNil _ _ _),by simp[eL,AV.flat]⟩
  case h_8 e2 a len cap hq2=>
   cases hq2
   simp only at h
   split at h
   ·rename_i hc
    simp only[mS,Option.bind_eq_some_iff]at h
    obtain⟨elems,hel,rest,_,rfl⟩:=h
    simp only[DataW.weights,ht]at hsz
    have ZbS:elems.length=len:=by simpa using mapM_some_length hel
    have each:∀ i,i<len→∃ b:α,Q b∧∃ cs',w.cells? 0 (a.add (i*P.cellsOf e)) (P.cellsOf e)=some cs'∧VRs (ZfG w) [] (E b) cs'∧∀ y∈E b,y.flat=true:=by
     intro i hi
     have hg:=mapM_some_get hel i i (by simp[hi])
     have hlt:i<elems.length:=by omega
     rw[gG hlt,Option.bind_eq_some_iff]at hg
     obtain⟨cs',h1,h2⟩:=hg
     obtain⟨b,hq,hv,hf⟩:=he w H enc n cs' _ h2 (fun m hm=>hsz m (by
      simp only[List.mem_cons,List.mem_append]
      exact .inr (.inl (ZfV (List.mem_map.2 ⟨elems[i],List.getElem_mem hlt,rfl⟩) m hm))))
     exact⟨b,hq,cs',h1,hv,hf⟩
    have all:∀ m,m≤len→∃ l:List α,l.length=m∧∀ i (hi:i<l.length),Q l[i]∧∃ cs',w.cells? 0 (a.add (i*P.cellsOf e)) (P.cellsOf e)=some cs'∧VRs (ZfG w) [] (E l[i]) cs'∧∀ y∈E l[i],y.flat=true:=by
     intro m
     induction m with
     |zero=>exact fun _=>⟨[],rfl,fun i hi=>by simp at hi⟩
     |succ m ih=>
      intro hm
      obtain⟨l,hl,h1⟩:=ih (by omega)
      obtain⟨b,hb⟩:=each m (by omega)
      refine⟨l++[b],by simp[hl],fun i hi=>?_⟩
      by_cases him:i<l.length
      ·rw[List.getElem_append_left him];exact h1 i him
      ·have:i=m:=by simp at hi;omega
       subst this
       have hb':(l++[b])[i]=b:=by
        rw[List.getElem_append_right (by omega)];simp[hl]
       rw[hb']
       exact⟨hb.1,hb.2⟩
    obtain⟨l,hl,hall⟩:=all len (Nat.le_refl _)
    have hby:l.length*bt≤B:=by
     have h1:=hsz _ (List.mem_cons_self ..)
     simp only[List.length_map]at h1
     rw[hbt]at h1
     have h2:l.length*bt≤(elems.length+rest.length)*bt:=Nat.mul_le_mul_right _ (by omega)
     omega
    refine⟨l,⟨by rw[hl];omega,hby,?_⟩,?_,by simp[eL,AV.flat]⟩
    ·intro b hb
     obtain⟨i,hi,rfl⟩:=List.getElem_of_mem hb
     exact(hall i hi).1
    ·by_cases hz:len=0
     ·subst hz
      have:l=[]:=List.eq_nil_of_length_eq_zero hl
      subst this
      exact VRs.one (.slNil _ _ _)
     ·
      have hsp:a.spot=none:=by
       obtain⟨_,cs',h1,_,_⟩:=hall 0 (by omega)
       obtain⟨_,h3⟩:=Zjx h1
       obtain⟨v,_,h4⟩:=h3 0 (by omega)
       simp only[Nat.zero_mul,Addr.add,if_true]at h4
       unfold World.cell? at h4
       split at h4
       ·split at h4
        ·cases h4
        ·rename_i hh;simpa using hh
       ·cases h4
      have hadd:∀ k,a.add k=⟨a.block,a.off+k,none⟩:=by
       intro k
       unfold Addr.add
       split
       ·rename_i h;subst h;obtain⟨b,o,s⟩:=a;simp only at hsp;subst hsp;rfl
       ·rfl
      have hcell:∀ i (hi:i<l.length) o x,(E l[i])[o]?=some x→∃ v,w.cell? ⟨a.block,a.off+(i*sz+o),none⟩=some v∧VR (ZfG w) [] x v∧x.flat=true:=by
       intro i hi o y hy
       obtain⟨_,cs',h1,h2,h3⟩:=hall i hi
       obtain⟨h4,h5⟩:=Zjx h1
       have ho:o<P.cellsOf e:=by
        rw[←h4,←h2.1];exact(gS.1 hy).1
       obtain⟨v,h6,h7⟩:=h5 o ho
       refine⟨v,?_,h2.2 o y v hy h6,h3 y (List.mem_of_getElem? hy)⟩
       rw[hadd]at h7
       have:Addr.add ⟨a.block,a.off+i*P.cellsOf e,none⟩ o=⟨a.block,a.off+(i*sz+o),none⟩:=by
        unfold Addr.add
        split
        ·rename_i h;subst h;rw[hs];rfl
        ·simp only[Addr.mk.injEq,true_and,and_true];rw[hs];omega
       rwa [this]at h7
      have ha:a=⟨a.block,a.off,none⟩:=by obtain⟨b,o,s⟩:=a;simp only at hsp;subst hsp;rfl
      have hmap:(l.map E).length=len:=by simp[hl]
      have key:VR (ZfG w) [] (.sl sz (l.map E)) (.slice (some ⟨a.block,a.off,none⟩) (l.map E).length cap):=by
       refine .sl (l.map E) a.block a.off sz cap (fun i o=>(w.cell? ⟨a.block,a.off+(i*sz+o),none⟩).getD default) ⟨by omega,by omega⟩ ?_ ?_ ?_ ?_
       ·intro c hc
        simp only[List.mem_map]at hc
        obtain⟨b,hb,rfl⟩:=hc
        obtain⟨i,hi,rfl⟩:=List.getElem_of_mem hb
        obtain⟨_,cs',h1,h2,_⟩:=hall i hi
        rw[h2.1,(Zjx h1).1,hs]
       all_goals
        intro i c o y h1 h2
        simp only[List.getElem?_map,mS]at h1
        obtain⟨b,h3,rfl⟩:=h1
        obtain⟨hi,rfl⟩:=gS.1 h3
        obtain⟨v,h4,h5,h6⟩:=hcell i hi o y h2
       ·show w.cell? _=_
        rw[h4];rfl
       ·exact h6
       ·simp only[h4,Option.getD_some];exact h5
      rw[hmap,←ha]at key
      exact VRs.one key
   ·cases h
  all_goals first|(cases h;done)|(rename_i e;cases e;done)
def Zdh (B:Nat) (P:Program) (l:List (Nat×TypeId)) (off tot:Nat) {α:Type} (E:α→List AV) (Q:α→Prop):Prop:=
 ∀ (w:World) (H:Type) (enc:TypeId×Value→H) (fuel:Nat) (cs:List Value) (xs:List (DataW H×List MemPlace)),cs.length=tot→
  l.mapM (fun f=>DataW.trod enc P w 0 (fun _=>true) true fuel f.2 ((cs.drop f.1).take (P.cellsOf f.2)))=some xs→(∀ n∈DataW.weightsEach P (l.map (·.2)) (xs.map (·.1)),n≤B)→∃ a,Q a∧VRs (ZfG w) [] (E a) (cs.drop off)∧(∀ y∈E a,y.flat=true)
theorem Zdh.nil {off tot:Nat} (h:tot≤off):Zdh B P [] off tot (fun _:Unit=>[]) (fun _=>True):=by
 intro w H enc fuel cs xs hl _ _
 refine⟨(),trivial,⟨?_,?_⟩,by simp⟩
 ·simp;omega
 ·intro i x v h1;simp at h1
theorem Zdh.cons {α β:Type}{f:Nat×TypeId}{l:List (Nat×TypeId)}{off sz off' tot:Nat}{E:α→List AV}{Q:α→Prop}{E':β→List AV}{Q':β→Prop} (ho:f.1=off) (hs:P.cellsOf f.2=sz) (ho':off+sz=off') (hr:Zd0 B P f.2 E Q) (hl:Zdh B P l off' tot E' Q'):
  Zdh B P (f::l) off tot (fun p:α×β=>E p.1++E' p.2) (fun p=>Q p.1∧Q' p.2):=by
 intro w H enc fuel cs xs hc h hsz
 rw[List.mapM_cons]at h
 simp only[Option.pure_def,Option.bind_eq_bind,Option.bind_eq_some_iff]at h
 obtain⟨x,h1,ys,h2,hx⟩:=h
 obtain rfl:=oi hx
 simp only[List.map_cons,DataW.weightsEach,List.mem_append]at hsz
 obtain⟨a,q1,v1,f1⟩:=hr w H enc fuel _ _ h1 (fun n hn=>hsz n (.inl hn))
 obtain⟨b,q2,v2,f2⟩:=hl w H enc fuel cs ys hc h2 (fun n hn=>hsz n (.inr hn))
 refine⟨(a,b),⟨q1,q2⟩,?_,?_⟩
 ·have:cs.drop off=(cs.drop f.1).take (P.cellsOf f.2)++cs.drop off':=by
   rw[ho,hs,←ho',←List.drop_drop,List.take_append_drop]
  rw[this]
  exact v1.append v2
 ·intro y hy
  rcases List.mem_append.1 hy with hy|hy
  ·exact f1 y hy
  ·exact f2 y hy
theorem Zgl {α β γ:Type} (g:α→β) (f:β→Option γ):∀ l:List α,(l.map g).mapM f=l.mapM (fun x=>f (g x))
 |[]=>rfl
 |x::l=>by rw[List.map_cons,List.mapM_cons,List.mapM_cons,Zgl g f l]
theorem Zd0.struct {α:Type}{fs:Array Field}{E:α→List AV}{Q:α→Prop}{tot:Nat} (ht:P.underlying t=some (.struct fs)) (hs:P.cellsOf t=tot) (hr:Zdh B P (fs.toList.map fun f=>(f.offset,f.type)) 0 tot E Q):Zd0 B P t E Q:=by
 intro w H enc fuel cs x h hsz
 cases fuel with
 |zero=>simp[DataW.trod]at h
 |succ n=>
  rw[DataW.trod_step]at h
  unfold DataW.trodStep at h
  rw[ht]at h
  split at h
  case h_9 c0 x0 c1 fs2 hq=>
   cases hq
   split at h
   ·rename_i hl
    simp only[mS]at h
    obtain⟨xs,h1,rfl⟩:=h
    have:=hr w H enc n c0 xs (by omega) (by rw[Zgl];exact h1) (fun m hm=>hsz m (by simp only[DataW.weights,ht];simpa [List.map_map,Function.comp_def] using hm))
    simpa using this
   ·cases h
  all_goals first|(cases h;done)|(rename_i e;cases e;done)|(simp_all;done)
theorem ZeS {H:Type}{e:TypeId}{m:Nat}:∀ (l:List Nat) (ds:List (DataW H)),m∈DataW.weightsEach P (l.map fun _=>e) ds→m∈DataW.weightsAll P e ds
 |[],_,h=>by simp[DataW.weightsEach]at h
 |_::_,[],h=>by simp[DataW.weightsEach]at h
 |_::l,d::ds,h=>by
  simp only[List.map_cons,DataW.weightsEach,List.mem_append]at h
  simp only[DataW.weightsAll,List.mem_append]
  rcases h with h|h
  ·exact .inl h
  ·exact .inr (ZeS l ds h)
theorem Zd0.array {α:Type}{m:Nat}{e:TypeId}{E:α→List AV}{Q:α→Prop}{tot:Nat} (ht:P.underlying t=some (.array m e)) (hs:P.cellsOf t=tot) (hr:Zdh B P ((List.range m).map fun i=>(i*P.cellsOf e,e)) 0 tot E Q):Zd0 B P t E Q:=by
 intro w H enc fuel cs x h hsz
 cases fuel with
 |zero=>simp[DataW.trod]at h
 |succ n=>
  rw[DataW.trod_step]at h
  unfold DataW.trodStep at h
  rw[ht]at h
  split at h
  case h_10 c0 x0 c1 m2 e2 hq=>
   cases hq
   split at h
   ·rename_i hl
    simp only[mS]at h
    obtain⟨xs,h1,rfl⟩:=h
    have:=hr w H enc n c0 xs (by omega) (by rw[Zgl];exact h1) (fun n0 hm=>hsz n0 (by simp only[DataW.weights,ht];exact ZeS (List.range m) _ (by simpa [List.map_map,Function.comp_def] using hm)))
    simpa using this
   ·cases h
  all_goals first|(cases h;done)|(rename_i e;cases e;done)|(simp_all;done)
theorem Zd0.as {α β:Type}{E:α→List AV}{Q:α→Prop}{E':β→List AV}{Q':β→Prop} (hr:Zd0 B P t E Q) (g:α→β) (hE:∀ a,E' (g a)=E a) (hQ:∀ a,Q a→Q' (g a)):Zd0 B P t E' Q':=by
 intro w H enc fuel cs x h hsz
 obtain⟨a,h1,h2,h3⟩:=hr w H enc fuel cs x h hsz
 exact⟨g a,hQ a h1,by rw[hE];exact h2,by rw[hE];exact h3⟩
theorem ZoF {α:Type}{E:α→List AV}{Q:α→Prop}{w:World}{H:Type}{enc:TypeId×Value→H}{v:Value}{d:DataW H}{ps:List MemPlace} (hr:Zd0 B P t E Q) (hv:v.cells=#[v]) (F:α→AV) (hF:∀ a,E a=[F a]) (h:DataW.Trod enc P w 0 (fun _=>true) true t v d ps) (hsz:∀ n∈d.weights P t,n≤B):
  ∃ a,Q a∧VR (ZfG w) [] (F a) v:=by
 obtain⟨fuel,h⟩:=h
 rw[hv]at h
 obtain⟨a,h1,h2,_⟩:=hr w H enc fuel _ _ h hsz
 rw[hF]at h2
 exact⟨a,h1,h2.2 0 _ _ rfl rfl⟩
end
end Go.Abs
namespace Go.Abs
open Go Go.RowKit
theorem ZhA {W W':World} (h:Below W.heap.size W W') (may:MemPlace→Prop):W.keptBut W' may:=by
 refine⟨h.os,h.output,fun i hi=>?_⟩
 have hb:=h.block i hi
 have:∃ o,W.heap[i]?=some o:=⟨_,Array.getElem?_eq_getElem hi⟩
 obtain⟨o,ho⟩:=this
 rw[hb,ho]
 cases o with
 |cells c t fr=>exact⟨rfl,rfl,rfl,fun _ _=>rfl⟩
 |map es clock=>exact .inr ⟨rfl,rfl⟩
 |_=>rfl
theorem Zi5 {W W':World} (h:Below W.heap.size W W') (p:MemPlace) (hp:p.block<W.heap.size):W.sameAt W' p:=by
 cases p with
 |cell b off=>
  have hb:=h.block b hp
  show W'.cell? _=W.cell? _
  unfold World.cell?
  simp only[hb]
 |map b=>exact h.block b hp
section
variable {H:Type}{enc:TypeId×Value→H}{P:Program}
theorem Zn6 {ts us:List TypeId}{ds gs:List (DataW H)} (hl:ds.length=ts.length) (h:(DataW.weightsEach P (ts++us) (ds++gs)).all (·≤reachBytes)=true) (j:Nat) (t:TypeId) (d:DataW H) (ht:ts[j]?=some t) (hd:ds[j]?=some d):∀ n∈d.weights P t,n≤reachBytes:=by
 intro n hn
 have h1:j<ts.length:=(gS.1 ht).1
 have:=List.all_eq_true.1 h n (DataW.weights_mem_each (j:=j) (by rw[List.getElem?_append_left h1];exact ht) (by rw[List.getElem?_append_left (by omega)];exact hd) n hn)
 simpa using this
theorem ZgR {w w':World}{base:Nat}{spare:Nat→Bool}{held:Bool}:∀ {ts:List TypeId}{vs:List Value}{ds:List (DataW H)}{ps:List MemPlace},DataW.TrodAll enc P w base spare held ts vs ds ps→(∀ p∈ps,w.sameAt w' p)→DataW.TrodAll enc P w' base spare held ts vs ds ps
 |[],[],[],_,h,_=>h
 |_::_,_::_,_::_,_,⟨p,q,⟨n,h1⟩,h2,e⟩,hs=>
  ⟨p,q,⟨n,DataW.trod_carry n _ _ _ h1 (fun x hx=>hs x (by rw[e];exact List.mem_append_left _ hx))⟩,ZgR h2 (fun x hx=>hs x (by rw[e];exact List.mem_append_right _ hx)),e⟩
theorem ZqI {f:Func}{s:ChangeSpec}{W W':World}{args:Array Value}{ds gs:List (DataW H)}{before:List MemPlace}{t:TypeId} (hl:laidOutB P=true) (hm:mapsRowed P=true)
  (hz:((List.range P.types.size).all fun t=>match P.underlying t with|some (.slice e)=>decide (0<P.cellsOf e)|_=>true)=true)
  (hW:DataW.Whole enc P f.params.toList s.vars false W args.toList ds gs before) (hvs:s.vars=[]) (hB:Below W.heap.size W W') (hpar:∀ t∈f.params.toList,t<P.types.size) (hrt:f.resultTypes=#[t]) (ht:P.underlying t=some .bool)
  (hfn:s.fn H (ds++gs)={ results:=[.lit (.bool true)],args:=ds }):s.post enc P f false true false false W args (.bool true) W':=by
 have hlt:=hW.lt
 have hW0:=hW
 obtain⟨p,q,hA,hV,hps,_,_⟩:=hW
 rw[hvs]at hV
 obtain⟨rfl,rfl⟩:gs=[]∧q=[]:=by
  cases gs with
  |nil=>exact⟨rfl,hV⟩
  |cons g gs=>exact hV.elim
 have hp:∀ x∈p,x.block<W.heap.size:=fun x hx=>hlt x (by rw[hps];simp[hx])
 refine⟨ds,[],before,[],p,[],hW0,?_,?_,?_,ZhA hB _,by simp⟩
 ·rw[hfn,hrt]
  exact⟨[],[],⟨1,by simp[DataW.trod_step,DataW.trodStep,ht,Value.cells]⟩,rfl,rfl⟩
 ·rw[hfn]
  exact DataW.TrodAll.respare (kids_rows hl hm) (fun t e h1 h2=>slices_full_of P hz t e h1 h2) hpar (ZgR hA (fun x hx=>Zi5 hB x (hp x hx))) (fun x hx=>by simpa using hp x hx)
 ·rw[hfn,hvs]
  rfl
end
end Go.Abs
namespace Go.Abs
open Go
def og (d:Nat) (o:Op) (t a:Nat) (b:Bool) (l:List Nat):SOp:=⟨some d,o,t,some (a,b),l⟩
def oq (d:Nat) (o:Op) (t:Nat) (l:List Nat):SOp:=⟨some d,o,t,none,l⟩
def mv (d s t:Nat) (l:List Nat):SOp:=⟨some d,.move (.tmp s),t,none,l⟩
def ld (d t s:Nat) (l:List Nat):SOp:=⟨some d,.load t (.tmp s),t,none,l⟩
def fa (d t s i:Nat) (l:List Nat):SOp:=⟨some d,.fieldAddr t (.tmp s) i,0,none,l⟩
def ia (d t s i:Nat) (l:List Nat):SOp:=⟨some d,.indexAddr t (.tmp s) (.tmp i),0,none,l⟩
def sg (d s t:Nat) (l:List Nat):SOp:=⟨some d,.assign (.tmp s),t,none,l⟩
def sn (d:Nat) (n:Int) (t:Nat) (l:List Nat):SOp:=⟨some d,.assign (.const (.int .i64 n)),t,none,l⟩
def sb (d:Nat) (b:Bool) (t:Nat) (l:List Nat):SOp:=⟨some d,.assign (.const (.bool b)),t,none,l⟩
def xt (d s i t:Nat) (l:List Nat):SOp:=⟨some d,.extract (.tmp s) i,t,none,l⟩
def ln (d s u t:Nat) (l:List Nat):SOp:=⟨some d,.call ⟨.builtin .len,#[.tmp s],#[u]⟩,t,none,l⟩
def cf1 (d f a ta t:Nat) (l:List Nat):SOp:=⟨some d,.call ⟨.value (.func f),#[.tmp a],#[ta]⟩,t,none,l⟩
def cf2 (d f a b ta tb t:Nat) (l:List Nat):SOp:=⟨some d,.call ⟨.value (.func f),#[.tmp a,.tmp b],#[ta,tb]⟩,t,none,l⟩
def b2 (d:Nat) (o:BinOp) (u a b v t:Nat) (l:List Nat):SOp:=⟨some d,.binOp o u (.tmp a) (.tmp b) v,t,none,l⟩
def bn (d:Nat) (o:BinOp) (u a:Nat) (n:Int) (v t:Nat) (l:List Nat):SOp:=⟨some d,.binOp o u (.tmp a) (.const (.int .i64 n)) v,t,none,l⟩
attribute [go_sem] og oq mv ld fa ia sg sn sb xt ln cf1 cf2 b2 bn
theorem aa {α:Type}{l:List α}{i:Int}{x:α} (h:at? l i=some x):ZbU i l.length=some i.toNat∧∀ (β:Type) (E:α→β),(l.map E)[i.toNat]?=some (E x):=⟨ZaF h,fun _ E=>Zaw E h⟩
theorem bs {α β:Type}{o:Option α}{f:α→Option β}{r:β} (h:o.bind f=some r):∃ x,o=some x∧f x=some r:=bind_some h
end Go.Abs
namespace Go.Abs
open Go
structure Vec (n:Nat) (α:Type) where
 l:List α
 h:l.length=n
def Vec.c {n:Nat}{α:Type} (E:α→List AV) (v:Vec n α):List AV:=(v.l.map E).flatten
theorem Vec.ext {n:Nat}{α:Type}{a b:Vec n α} (h:a.l=b.l):a=b:=by
 cases a;cases b;cases h;rfl
theorem ZeC {α:Type}{E:α→List AV}{z:Nat} (h:∀ x,(E x).length=z):∀ l:List α,(l.map E).flatten.length=l.length*z
 |[]=>by simp
 |x::l=>by rw[List.map_cons,List.flatten_cons,List.length_append,h,ZeC h l,List.length_cons,Nat.succ_mul];omega
theorem Vec.len {n:Nat}{α:Type}{E:α→List AV}{z:Nat} (h:∀ x,(E x).length=z) (v:Vec n α):(v.c E).length=n*z:=by
 unfold Vec.c;rw[ZeC h,v.h]
def Vec.at? {n:Nat}{α:Type} (v:Vec n α) (i:Int):Option α:=if 0≤i∧i<n then v.l[i.toNat]? else none
def Vec.set {n:Nat}{α:Type} (v:Vec n α) (i:Int) (x:α):Vec n α:=⟨v.l.set i.toNat x,by simp[v.h]⟩
def Vec.rep (n:Nat) {α:Type} (x:α):Vec n α:=⟨List.replicate n x,by simp⟩
theorem Zaa {n:Nat}{α:Type}{v:Vec n α}{i:Int}{x:α} (h:v.at? i=some x):ZbU i n=some i.toNat:=by
 unfold Vec.at? at h
 split at h
 ·rename_i hc;unfold ZbU;rw[if_pos hc]
 ·cases h
theorem Zp1 {n:Nat}{α:Type}{v:Vec n α}{i:Int}{x:α} (h:v.at? i=some x):v.l[i.toNat]?=some x:=by
 unfold Vec.at? at h
 split at h
 ·exact h
 ·cases h
def Sub (cs:List AV) (o:Nat) (c:List AV):Prop:=∃ a b,cs=a++(c++b)∧a.length=o
theorem Sub.self (c:List AV):Sub c 0 c:=⟨[],[],by simp,rfl⟩
theorem Sub.trans {cs c c':List AV}{o o':Nat} (h:Sub cs o c) (k:Sub c o' c'):Sub cs (o+o') c':=by
 obtain⟨a,b,rfl,rfl⟩:=h
 obtain⟨a',b',rfl,rfl⟩:=k
 exact⟨a++a',b'++b,by simp,by simp⟩
theorem Sub.cons (x:AV) {cs c:List AV}{o:Nat} (h:Sub cs o c):Sub (x::cs) (o+1) c:=by
 obtain⟨a,b,rfl,rfl⟩:=h
 exact⟨x::a,b,by simp,by simp⟩
theorem Sub.bound {cs c:List AV}{o z:Nat} (h:Sub cs o c) (hz:c.length=z):o+z≤cs.length:=by
 obtain⟨a,b,rfl,rfl⟩:=h
 simp;omega
theorem Sub.get {cs c:List AV}{o z:Nat} (h:Sub cs o c) (hz:c.length=z):(cs.drop o).take z=c:=by
 obtain⟨a,b,rfl,rfl⟩:=h
 subst hz
 simp
theorem Sub.idx {n:Nat}{α:Type}{E:α→List AV}{z:Nat} (hE:∀ x,(E x).length=z) {v:Vec n α}{i:Int}{x:α} (h:v.at? i=some x):Sub (v.c E) (i.toNat*z) (E x):=by
 have hg:=Zp1 h
 obtain⟨hlt,hx⟩:=gS.1 hg
 refine⟨((v.l.take i.toNat).map E).flatten,((v.l.drop (i.toNat+1)).map E).flatten,?_,?_⟩
 ·unfold Vec.c
  conv=>lhs;rw[←List.take_append_drop i.toNat v.l,List.drop_eq_getElem_cons hlt,hx]
  simp
 ·rw[ZeC hE,List.length_take,Nat.min_eq_left (by omega)]
theorem ZqQ {cs c c':List AV}{o o':Nat} (h:Sub cs o c) (k:Sub c o' c') {new:List AV} (hl:new.length=c'.length):Zap cs (o+o') new=Zap cs o (Zap c o' new):=by
 obtain⟨a,b,rfl,rfl⟩:=h
 obtain⟨a',b',rfl,rfl⟩:=k
 have h1:Zap (a++((a'++(c'++b'))++b)) (a.length+a'.length) new=a++(a'++(new++(b'++b))):=by
  unfold Zap
  rw[hl]
  have e1:(a++((a'++(c'++b'))++b))=(a++a')++(c'++(b'++b)):=by simp
  rw[e1,List.take_left' (by simp),←List.drop_drop,List.drop_left' (by simp),List.drop_left' rfl]
  simp
 have h2:Zap (a'++(c'++b')) a'.length new=a'++(new++b'):=by
  unfold Zap
  rw[hl,List.take_left' rfl,←List.drop_drop,List.drop_left' rfl,List.drop_left' rfl]
 rw[h1,h2]
 unfold Zap
 rw[List.take_left' rfl,←List.drop_drop,List.drop_left' rfl,List.drop_left' (by simp[hl])]
 simp
theorem Zuw {n:Nat}{α:Type}{E:α→List AV}{z:Nat} (hE:∀ x,(E x).length=z) {v:Vec n α}{i:Int}{x:α} (h:v.at? i=some x) (y:α):Zap (v.c E) (i.toNat*z) (E y)=(v.set i y).c E:=by
 have hg:=Zp1 h
 obtain⟨hlt,hx⟩:=gS.1 hg
 have e1:v.c E=((v.l.take i.toNat).map E).flatten++(E x++((v.l.drop (i.toNat+1)).map E).flatten):=by
  unfold Vec.c
  conv=>lhs;rw[←List.take_append_drop i.toNat v.l,List.drop_eq_getElem_cons hlt,hx]
  simp
 have e2:(v.set i y).c E=((v.l.take i.toNat).map E).flatten++(E y++((v.l.drop (i.toNat+1)).map E).flatten):=by
  unfold Vec.c Vec.set
  simp only
  rw[List.set_eq_take_append_cons_drop,if_pos hlt]
  simp
 have hl:(((v.l.take i.toNat).map E).flatten).length=i.toNat*z:=by rw[ZeC hE,List.length_take,Nat.min_eq_left (by omega)]
 rw[e1,e2]
 unfold Zap
 rw[←hl,List.take_left' rfl,←List.drop_drop,List.drop_left' rfl,List.drop_left' (by rw[hE,hE])]
theorem Zti {c new:List AV} (h:new.length=c.length):Zap c 0 new=new:=by
 unfold Zap;rw[Nat.zero_add,h,List.drop_length];simp
theorem Zth (x:AV) (cs new:List AV) (o:Nat):Zap (x::cs) (o+1) new=x::Zap cs o new:=by
 unfold Zap;rw[show o+1+new.length=(o+new.length)+1 by omega];simp
structure VK {α:Type} (z:Nat) (E:α→List AV):Prop where
 len:∀ x,(E x).length=z
 ice:∀ x,Ice (E x)
theorem Zjf (d:Nat):∀ a b x y:List AV,AV.unL d a=some x→AV.unL d b=some y→AV.unL d (a++b)=some (x++y)
 |[],b,x,y,h,k=>by simp only[AV.unL,oE]at h;subst h;simpa using k
 |u::a,b,x,y,h,k=>by
  simp only[AV.unL]at h
  split at h
  ·rename_i p q hp hq
   obtain rfl:=oi h
   simp only[List.cons_append,AV.unL,hp,Zjf d a b q y hq k]
  ·cases h
theorem Zii (G:Get):∀ a b x y:List AV,AV.frzL G a=some x→AV.frzL G b=some y→AV.frzL G (a++b)=some (x++y)
 |[],b,x,y,h,k=>by simp only[AV.frzL,oE]at h;subst h;simpa using k
 |u::a,b,x,y,h,k=>by
  simp only[AV.frzL]at h
  split at h
  ·rename_i p q hp hq
   obtain rfl:=oi h
   simp only[List.cons_append,AV.frzL,hp,Zii G a b q y hq k]
  ·cases h
theorem ZiQ (G:Get) (F:Nat→Nat→Option (List AV)):∀ a b x y:List AV,AV.brL G F a=some x→AV.brL G F b=some y→AV.brL G F (a++b)=some (x++y)
 |[],b,x,y,h,k=>by simp only[AV.brL,oE]at h;subst h;simpa using k
 |u::a,b,x,y,h,k=>by
  simp only[AV.brL]at h
  split at h
  ·rename_i p q hp hq
   obtain rfl:=oi h
   simp only[List.cons_append,AV.brL,hp,ZiQ G F a b q y hq k]
  ·cases h
theorem Zi0 (ks:List Nat):∀ a b x y:List AV,AV.renL ks a=some x→AV.renL ks b=some y→AV.renL ks (a++b)=some (x++y)
 |[],b,x,y,h,k=>by simp only[AV.renL,oE]at h;subst h;simpa using k
 |u::a,b,x,y,h,k=>by
  simp only[AV.renL]at h
  split at h
  ·rename_i p q hp hq
   obtain rfl:=oi h
   simp only[List.cons_append,AV.renL,hp,Zi0 ks a b q y hq k]
  ·cases h
theorem Zgi (k:Nat):∀ a b:List AV,AV.impL k (a++b)=AV.impL k a++AV.impL k b
 |[],b=>rfl
 |x::a,b=>by simp only[List.cons_append,AV.impL,Zgi k a b]
theorem Zfv:∀ a b:List AV,AV.refsL (a++b)=AV.refsL a++AV.refsL b
 |[],b=>rfl
 |x::a,b=>by simp only[List.cons_append,AV.refsL,Zfv a b,List.append_assoc]
theorem Ice.append {a b:List AV} (h:Ice a) (k:Ice b):Ice (a++b):=
 ⟨fun d=>by rw[Zhm,h.sh,k.sh],fun G=>Zii G _ _ _ _ (h.frz G) (k.frz G),fun G F=>ZiQ G F _ _ _ _ (h.br G F) (k.br G F),by rw[Zfv,h.refs,k.refs];rfl,
  fun n=>by rw[Zgi,h.imp,k.imp],fun ks=>Zi0 ks _ _ _ _ (h.ren ks) (k.ren ks),fun d=>Zjf d _ _ _ _ (h.un d) (k.un d)⟩
theorem Ice.nil:Ice []:=⟨fun _=>rfl,fun _=>rfl,fun _ _=>rfl,rfl,fun _=>rfl,fun _=>rfl,fun _=>rfl⟩
theorem Ice.flat {α:Type}{E:α→List AV} (h:∀ x,Ice (E x)):∀ l:List α,Ice (l.map E).flatten
 |[]=>Ice.nil
 |x::l=>by rw[List.map_cons,List.flatten_cons];exact(h x).append (Ice.flat h l)
theorem VK.vec {α:Type}{z:Nat}{E:α→List AV} (h:VK z E) (n:Nat):VK (n*z) (Vec.c (n:=n) E):=
 ⟨fun v=>v.len h.len,fun v=>Ice.flat h.ice v.l⟩
theorem Zbj:VK 1 eI:=⟨fun _=>rfl,fun _=>⟨fun _=>rfl,fun _=>rfl,fun _ _=>rfl,rfl,fun _=>rfl,fun _=>rfl,fun _=>rfl⟩⟩
theorem Zar:VK 1 eU8:=⟨fun _=>rfl,fun _=>⟨fun _=>rfl,fun _=>rfl,fun _ _=>rfl,rfl,fun _=>rfl,fun _=>rfl,fun _=>rfl⟩⟩
theorem ZfP:∀ (z a b z' a' b':List AV),z.length=a.length→a.length=b.length→Zav (z++z') (a++a') (b++b')=(match Zav z a b,Zav z' a' b' with
  |some p,some q=>some (p&&q)
  |_,_=>none)
 |[],[],[],z',a',b',_,_=>by
  simp only[List.nil_append,Zav]
  cases Zav z' a' b'<;>simp
 |x::z,p::a,q::b,z',a',b',h1,h2=>by
  simp only[List.cons_append,Zav]
  rw[ZfP z a b z' a' b' (by simpa using h1) (by simpa using h2)]
  cases ZcH x p q<;>cases Zav z a b<;>cases Zav z' a' b'<;>simp[Bool.and_assoc]
 |[],_::_,_,_,_,_,h,_=>by simp at h
 |_::_,[],_,_,_,_,h,_=>by simp at h
 |[],[],_::_,_,_,_,_,h=>by simp at h
 |_::_,_::_,[],_,_,_,_,h=>by simp at h
theorem Zhu {α:Type}{E:α→List AV}{z:Nat}{zc:List AV} (hE:∀ x,(E x).length=z) (hz:zc.length=z) (eq:α→α→Bool) (h:∀ x y,Zav zc (E x) (E y)=some (eq x y)):
  ∀ (n:Nat) (a b:List α),a.length=n→b.length=n→Zav (List.replicate n zc).flatten (a.map E).flatten (b.map E).flatten=some (a.zip b |>.all fun p=>eq p.1 p.2)
 |0,[],[],_,_=>by simp[Zav]
 |n+1,x::a,y::b,h1,h2=>by
  rw[List.replicate_succ,List.map_cons,List.map_cons,List.flatten_cons,List.flatten_cons,List.flatten_cons,ZfP _ _ _ _ _ _ (by rw[hz,hE]) (by rw[hE,hE]),h x y,
   Zhu hE hz eq h n a b (by simpa using h1) (by simpa using h2)]
  simp
structure UpdE {α:Type} (cs:List AV) (o:Nat) (E:α→List AV) (x:α) (g:α→List AV):Prop where
 sub:Sub cs o (E x)
 ow:∀ y,Zap cs o (E y)=g y
theorem UpdE.self {α:Type}{E:α→List AV}{z:Nat} (hE:∀ x,(E x).length=z) (x:α):UpdE (E x) 0 E x E:=
 ⟨Sub.self _,fun y=>Zti (by rw[hE,hE])⟩
theorem UpdE.cons {α:Type}{E:α→List AV}{cs:List AV}{o:Nat}{x:α}{g:α→List AV} (a:AV) (h:UpdE cs o E x g):UpdE (a::cs) (o+1) E x (fun y=>a::g y):=
 ⟨h.sub.cons a,fun y=>by rw[Zth,h.ow]⟩
theorem UpdE.skip {α:Type}{E:α→List AV}{cs:List AV}{o:Nat}{x:α}{g:α→List AV} (h:UpdE cs o E x g):∀ p:List AV,UpdE (p++cs) (p.length+o) E x (fun y=>p++g y)
 |[]=>by simpa using h
 |a::p=>by
  have:=(UpdE.skip h p).cons a
  rw[List.length_cons,show p.length+1+o=p.length+o+1 by omega]
  exact this
theorem UpdE.idx {n:Nat}{α:Type}{E:α→List AV}{z:Nat} (hE:∀ x,(E x).length=z) {v:Vec n α}{i:Int}{x:α} (h:v.at? i=some x):UpdE (v.c E) (i.toNat*z) E x (fun y=>(v.set i y).c E):=
 ⟨Sub.idx hE h,fun y=>Zuw hE h y⟩
theorem UpdE.within {α β:Type}{cs:List AV}{o o':Nat}{E:α→List AV}{x:α}{g:α→List AV}{E':β→List AV}{x':β}{g':β→List AV}{z:Nat} (hE:∀ x,(E' x).length=z)
  (h:UpdE cs o E x g) (k:UpdE (E x) o' E' x' g') (up:β→α) (hg:∀ y,g' y=E (up y)):UpdE cs (o+o') E' x' (fun y=>g (up y)):=
 ⟨h.sub.trans k.sub,fun y=>by rw[ZqQ h.sub k.sub (by rw[hE,hE]),k.ow,hg,h.ow]⟩
theorem UpdE.at {n:Nat}{α:Type}{E:α→List AV}{z:Nat} (hE:∀ x,(E x).length=z) {cs:List AV}{o:Nat}{v:Vec n α}{g:Vec n α→List AV} (h:UpdE cs o (Vec.c E) v g) {i:Int}{x:α} (hx:v.at? i=some x):
  UpdE cs (o+i.toNat*z) E x (fun y=>g (v.set i y)):=
 UpdE.within hE h (UpdE.idx hE hx) (fun y=>v.set i y) (fun _=>rfl)
theorem UpdE.bound {α:Type}{cs:List AV}{o z:Nat}{E:α→List AV}{x:α}{g:α→List AV} (h:UpdE cs o E x g) (hE:∀ x,(E x).length=z):o+z≤cs.length:=h.sub.bound (hE x)
theorem UpdE.get {α:Type}{cs:List AV}{o z:Nat}{E:α→List AV}{x:α}{g:α→List AV} (h:UpdE cs o E x g) (hE:∀ x,(E x).length=z):(cs.drop o).take z=E x:=h.sub.get (hE x)
def Vec.eq {n:Nat}{α:Type} (eq:α→α→Bool) (a b:Vec n α):Bool:=(a.l.zip b.l).all fun p=>eq p.1 p.2
theorem Zc1 {n:Nat}{α:Type}{E:α→List AV}{z:Nat} (hE:∀ x,(E x).length=z) {x0:α}{eq:α→α→Bool} (h:∀ x y,Zav (E x0) (E x) (E y)=some (eq x y)) (a b:Vec n α):
  Zav ((Vec.rep n x0).c E) (a.c E) (b.c E)=some (a.eq eq b):=by
 have:=Zhu hE (hE x0) eq h n a.l b.l a.h b.h
 unfold Vec.c Vec.rep Vec.eq
 simp only[List.map_replicate]
 exact this
def Vec.put {n:Nat}{α:Type} (v:Vec n α) (o m:Nat) (l:List α):Vec n α:=
 if h:o+m≤n then ⟨v.l.take o++(l.take m++v.l.drop (o+min l.length m)),by
  simp only[List.length_append,List.length_take,List.length_drop,v.h];omega⟩ else v
theorem Zts {n:Nat} (v:Vec n Int):v.c eU8=v.l.map (AV.int .u8):=by
 unfold Vec.c eU8
 induction v.l with
 |nil=>rfl
 |cons x l ih=>simp[ih]
theorem Zup (l:List Int):(l.map eU8).flatten=l.map (AV.int .u8):=by
 unfold eU8
 induction l with
 |nil=>rfl
 |cons x l ih=>simp[ih]
theorem ZoX {n:Nat} (v:Vec n Int) (o m:Nat):(AV.frzL (fun _ _=>none) (((v.c eU8).drop o).take m)).map (fun cs=>cs.map fun c=>[c])=some ((((v.l.drop o).take m)).map eU8):=by
 rw[Zts,←List.map_drop,←List.map_take]
 generalize (v.l.drop o).take m=l
 have:AV.frzL (fun _ _=>none) (l.map (AV.int .u8))=some (l.map (AV.int .u8)):=by
  induction l with
  |nil=>rfl
  |cons x l ih=>simp only[List.map_cons,AV.frzL,AV.frz,ih]
 rw[this]
 simp[eU8]
theorem Zpm {n:Nat} (v:Vec n Int) (o m:Nat) (l:List Int) (h:o+m≤n):Zap (v.c eU8) o ((l.map eU8).take m).flatten=(v.put o m l).c eU8:=by
 unfold Vec.put
 rw[dif_pos h,←List.map_take,Zup,Zts,Zts]
 unfold Zap
 simp only[List.map_append,List.map_take,List.map_drop,List.length_take,List.length_map]
 rw[Nat.min_comm]
def ZlR (l:List Int):ByteArray:=⟨(l.map fun n=>UInt8.ofNat n.toNat).toArray⟩
theorem ZhZ:∀ l:List Int,bytesOf (l.map eU8)=some (l.map fun n=>UInt8.ofNat n.toNat)
 |[]=>rfl
 |x::l=>by simp only[List.map_cons,bytesOf,ZhZ l,eU8,Zmi]
def ZfJ (s:ByteArray):List Int:=s.data.toList.map fun c=>(c.toNat:Int)
theorem ZkZ (s:ByteArray):Zgp s=(ZfJ s).map eU8:=by
 unfold Zgp ZfJ eU8;rw[List.map_map];rfl
theorem Zcw (s:ByteArray):(ZfJ s).length=s.size:=by unfold ZfJ;rw[List.length_map];rfl
def Ztq (s:ByteArray) (i:Int):Option Int:=if 0≤i∧i<s.size then some ((s.data.toList.getD i.toNat 0).toNat:Int) else none
theorem Zh4 {s:ByteArray}{i x:Int} (h:Ztq s i=some x):ZbU i s.size=some i.toNat:=by
 unfold Ztq at h
 split at h
 ·rename_i hc;unfold ZbU;rw[if_pos hc]
 ·cases h
theorem Zfy {s:ByteArray}{i x:Int} (h:Ztq s i=some x):((s.data.toList.getD i.toNat 0).toNat:Int)=x:=by
 unfold Ztq at h
 split at h
 ·exact oi h
 ·cases h
theorem Zre (l:List Int):(⟨(l.map fun n=>UInt8.ofNat n.toNat).toArray⟩:ByteArray)=ZlR l:=rfl
def ZvV (x:Int):List AV:=[.int .u64 x]
theorem ba0:(⟨#[]⟩:ByteArray)=ByteArray.empty:=rfl
def sh? (y:Int):Option Unit:=if y<0 then none else some ()
theorem Zdo {y:Int}{u:Unit} (h:sh? y=some u):(y<0)=False:=by
 unfold sh? at h
 split at h
 ·cases h
 ·rename_i h1;exact eq_false h1
theorem Zut:min (Int.toNat 1) 64=1:=rfl
theorem Zuu:min (Int.toNat 8) 64=8:=rfl
theorem ZsX:min (Int.toNat 16) 64=16:=rfl
theorem ZsY:min (Int.toNat 24) 64=24:=rfl
theorem ZsZ:min (Int.toNat 32) 64=32:=rfl
attribute [go_sem] Zut Zuu ZsX ZsY ZsZ ZvV ba0 ZiO Zfg Zep Zgi Zfv List.cons_append List.nil_append List.append_nil
end Go.Abs
namespace Go.Abs
open Go Go.RowKit
set_option linter.unusedSectionVars false
section
variable {P:Program}{T:Tys}{N0:Nat}{W0:World}{fm:FM}{ts:List Tie}{H:Zam}{w:World}
def Zjk (P:Program) (f:FuncId) (args:List AV) (X:Fra) (R:AV→Fra→Fra→Prop):Prop:=
 ∀ (f1:Fra) (H:Zam),ZfE P f args ((X++f1)::H) (fun y fr H'=>∃ X',R y fr X'∧H'=(X'++f1)::H)
theorem Zjk.of_body (hT : ZaL P T) {f : FuncId} {fn : Func} {c : Code} {sc : SC} {args : List AV} {X : Fra} {R : AV → Fra → Fra → Prop} (hf : P.funcs[f]? = some fn) (hb : fn.body = some c) (hnm : (fn.name == "runtime.NumGoroutine") = false)
  (he:sc.bare=Zba fn.ntmps c) (hfit:(Zba fn.ntmps c).fits fn.ntmps=true) (hargs:args.length≤fn.ntmps)
  (h:∀ f1 H,AK P fn.ntmps (Zu6 T fn.results.toList fun y fr H'=>∃ X',R y fr X'∧H'=(X'++f1)::H) [.sc sc] (St.enter args ((X++f1)::H) fn.ntmps)):Zjk P f args X R:=
 fun f1 H=>ZfE.of_body hT hf hb hnm he hfit hargs (h f1 H) (by rintro y fr H' ⟨X',_,rfl⟩;rfl)
theorem ZhN {n:Nat}{rs:List ResultVar}{f1:Fra}{st:St}{e:Exit}{y0:AV}{X0:Fra} (he:e=.ret∨e=.normal) (h1:((Zcu T st rs).bind fun xs=>(Zb0 xs).ren [])=some y0) (h2:st.low=(X0++f1)::H):
  ZbX P n (Zu6 T rs fun y fr H'=>∃ X',(y=y0∧fr=[]∧X'=X0)∧H'=(X'++f1)::H) (.fin e st):=by
 obtain⟨xs,h3,h4⟩:=Option.bind_eq_some_iff.1 h1
 have:∃ xs,Zcu T st rs=some xs∧Gives (fun y fr H'=>∃ X',(y=y0∧fr=[]∧X'=X0)∧H'=(X'++f1)::H) (Zb0 xs) st:=
  ⟨xs,h3,.own [] y0 [] (by simp) (by simp) h4 rfl ⟨X0,⟨rfl,rfl,rfl⟩,h2⟩⟩
 rcases he with rfl|rfl<;>exact this
theorem Zrb {xs ys:List AV}{vs:List Value}{ks:List Nat}{t:Tie}{rest:List Tie} (h:VRs fm (t::rest) xs vs) (e:AV.renL ks xs=some ys):VRs fm (Zho ks t::rest) ys vs:=by
 have g:=ZeI ks _ _ e
 refine⟨by rw[g.1];exact h.1,fun i y v hy hv=>?_⟩
 have hlt:i<xs.length:=by rw[←g.1];exact(gS.1 hy).1
 obtain⟨y',hy',hu⟩:=g.2 i _ (gG hlt)
 rw[hy]at hy';obtain rfl:=oi hy'
 exact(h.2 i _ v (gG hlt) hv).ren rfl hu
theorem Zps {xs:List AV}{vs:List Value}{t:Tie} (h:VRs fm ts xs vs):VRs fm (t::ts) (AV.shL 1 xs) vs:=by
 refine⟨by rw[Zb6];exact h.1,?_⟩
 intro i x v hx hv
 rw[Zdv,mS]at hx
 obtain⟨y,hy,rfl⟩:=hx
 exact(h.2 i y v hy hv).sh 1 (by simp)
def Zmu (ks:List Nat) (args:List AV):Option (List AV):=
 match AV.unL 1 args with
 |some xs=>match AV.renL ks xs with
  |some ys=>some (AV.shL 1 ys)
  |none=>none
 |none=>none
section
variable [Md] {n:Nat}{Φ:Exit→St→Prop}{f:FuncId}{args:List AV}{dst:Option Tmp}{drop:List Nat}{todo:List It}{st:St}
theorem Zeb.norm {st1:St}{args1:List AV}{keep ks:List Nat}{nx:Nat} (e:st.norm keep ks nx=some st1) (hnd:ks.Nodup) (hnx:ks.length≤nx) (ea:Zmu ks args=some args1):Zeb n st args st1 args1:=by
 intro N0 W0 a w fm ts vs h hv
 unfold St.norm at e
 split at e
 ·rename_i tm fr htm hfr
  obtain rfl:=oi e
  cases ts with
  |nil=>have:=h.hr.len;simp at this
  |cons t rest=>
   refine⟨fm,Zho ks t::rest,⟨h.hr.ren hfr hnd,?_,?_,h.size,h.dfr⟩,⟨FmUp.refl _ _,ZaA.refl _,fun _ _ h=>h⟩,?_⟩
   ·intro i y hy
    obtain⟨x,h1,h2⟩:=Zhl ks st.tm keep tm htm i y hy
    obtain⟨v,h3,h4⟩:=h.tm i x h1
    exact⟨v,h3,h4.ren rfl h2⟩
   ·intro k hk
    have hk':nx≤k:=hk
    simp only[tb,Zho]
    rw[List.getElem?_eq_none (by omega)];rfl
   ·unfold Zmu at ea
    split at ea
    ·rename_i xs hxs
     split at ea
     ·rename_i ys hys
      obtain rfl:=oi ea
      have h1:=ZlW hxs hv
      exact Zps (Zrb (by simpa using h1) hys)
     ·cases ea
    ·cases ea
 ·cases e
theorem Zeb.trans {a b c:St}{xs ys zs:List AV} (h:Zeb n a xs b ys) (k:Zeb n b ys c zs):Zeb n a xs c zs:=by
 intro N0 W0 x w fm ts vs hS hv
 obtain⟨fm1,ts1,h1,h2,h3⟩:=h N0 W0 x w fm ts vs hS hv
 obtain⟨fm2,ts2,h4,h5,h6⟩:=k N0 W0 x w fm1 ts1 vs h1 h3
 exact⟨fm2,ts2,h4,h2.trans h5,h6⟩
theorem ZgU {st1:St}{args1:List AV} (hm:Zeb n st args st1 args1) (h:ZbX P n Φ (.call f args1 dst drop todo st1)):ZbX P n Φ (.call f args dst drop todo st):=by
 obtain⟨st2,args2,R,Rp,h1,h2,h3,h4⟩:=h
 exact⟨st2,args2,R,Rp,hm.trans h1,h2,h3,h4⟩
def nOK (P:Program) (n:Nat) (Φ:Exit→St→Prop) (f:FuncId) (dst:Option Tmp) (drop:List Nat) (todo:List It):Option St→Option (List AV)→Prop
 |some st1,some args1=>ZbX P n Φ (.call f args1 dst drop todo st1)
 |_,_=>False
theorem ZqN {st1:St}{args1:List AV}:nOK P n Φ f dst drop todo (some st1) (some args1)=ZbX P n Φ (.call f args1 dst drop todo st1):=rfl
theorem Zbv (keep ks:List Nat) (nx:Nat) (hnd:(decide ks.Nodup&&decide (ks.length≤nx))=true) (h:nOK P n Φ f dst drop todo (st.norm keep ks nx) (Zmu ks args)):ZbX P n Φ (.call f args dst drop todo st):=by
 unfold nOK at h
 split at h
 ·rename_i st1 args1 h1 h2
  simp only[Bool.and_eq_true,decide_eq_true_eq]at hnd
  exact ZgU (Zeb.norm h1 hnd.1 hnd.2 h2) h
 ·exact h.elim
theorem Zbc {args0:List AV}{X0 X1:Fra}{y0:AV}{fr0:Fra} (hp:Zjk P f args0 X0 (fun y fr X'=>y=y0∧fr=fr0∧X'=X1)) (ha:args=args0∧st.fr.take X0.length=X0)
  (h:AK P n Φ todo (st.took dst drop y0 fr0 ((X1++st.fr.drop X0.length)::st.low))):ZbX P n Φ (.call f args dst drop todo st):=by
 obtain⟨rfl,hx⟩:=ha
 have h1:=hp (st.fr.drop X0.length) st.low
 have e:X0++st.fr.drop X0.length=st.fr:=by
  have:=List.take_append_drop X0.length st.fr
  rw[hx]at this;exact this
 rw[e]at h1
 refine Zgu h1 ?_
 rintro v fr H ⟨X',⟨rfl,rfl,rfl⟩,rfl⟩
 exact h
theorem Zm9 (hT:ZaL P T) {fargs:List AV}{y0:AV}{fr0:Fra} (m:Nat) (hp:Zb7 P f fargs [] (fun y fr=>y=y0∧fr=fr0)) (hz:AV.brL (Zam.get ([]::st.fr::st.low)) (Abs.boxF (Zam.get ([]::st.fr::st.low)) 5) args=some fargs) (hy:y0.lot=true) (hf:ZqJ fr0)
  (h:ZbX P n Φ (run T m todo (st.took dst drop y0 fr0 (st.fr::st.low)))):ZbX P n Φ (.call f args dst drop todo st):=by
 refine Zgu (Zb7.lent 5 hp hz hy hf) ?_
 rintro y fr H' ⟨rfl,rfl,rfl⟩
 exact Zag hT m _ _ h
theorem Zeb.wake {tm:List (Nat×AV)}{fr:Fra}{low:Zam}{nx nt:Nat} (k o e s:Nat) {cs:List AV} (hk:look fr k=some (.box cs)) (ho:cs[o]?=some .nil):
  Zeb n ⟨tm,fr,low,nx,nt⟩ args ⟨tm,ins (ins fr nx (.arr e s [])) k (.box (cs.set o (.loc 0 nx s 0 0 0))),low,nx+16,nt⟩ args:=by
 intro N0 W0 a w fm ts vs h hvs
 have hk0:tb ts 0 nx=none:=h.nx nx (Nat.le_refl _)
 have h1:=h.hr.empty (k:=nx) e s hk0 (by simp)
 have hlt:0<ts.length:=by rw[h.hr.len];simp
 have hT1:ZaA ts (Zei ts 0 nx (.arr 0 none)):=ZaA.set (by rw[hk0];trivial)
 have hg0:Zam.get (fr::low) 0 k=some (.box cs):=by simpa [Zam.get] using hk
 have hb:=h.hr.blk 0 k _ hg0
 have hkn:nx≠k:=by
  intro e'
  subst e'
  rw[hk0]at hb
  cases hb
 have hg1:Zam.get (Zam.put (fr::low) 0 nx (some (.arr e s []))) 0 k=some (.box cs):=by
  rw[Zam.get_put,if_neg (fun hh=>hkn hh.2.1)];exact hg0
 have htb:∀ l j,¬ (l=0∧j=nx)→tb (Zei ts 0 nx (.arr 0 none)) l j=tb ts l j:=by
  intro l j hn
  rw[ZaN,if_neg (fun hh=>hn ⟨hh.1.symm,hh.2.1.symm⟩)]
 have htn:tb (Zei ts 0 nx (.arr 0 none)) 0 nx=some (.arr 0 none):=by rw[ZaN,if_pos ⟨rfl,rfl,hlt⟩]
 have hb1:=h1.blk 0 k _ hg1
 rw[htb 0 k (fun hh=>hkn hh.2.symm)]at hb1
 generalize htt:tb ts 0 k=tt at hb1
 cases hb1 with
 |box c _ hN hB=>
  have hkb:tb (Zei ts 0 nx (.arr 0 none)) 0 k=some (.box c):=by rw[htb 0 k (fun hh=>hkn hh.2.symm),htt]
  obtain⟨cells,et,c1,c2,c3⟩:=hB
  have hturn:=h1.turn (w':=w) (l:=0) (k:=k) (c:=c) (x:=.box c) (b:=.box (cs.set o (.loc 0 nx s 0 0 0))) (by simp) rfl (fun _ _ _=>rfl) (Below.refl _ _) (fun o ho=>by rw[c1]at ho;cases ho;rfl) (by rw[hkb];exact Zec.refl _)
   (fun l' k' b' g' t'=>h1.inj l' k' 0 k b' _ c g' hg1 t' (by rw[hkb];rfl)) (fun o=>h1.fmd 0 k _ c o hg1 (by rw[hkb];rfl)) (by
    rw[Zdp hkb]
    refine .box c _ hN ⟨cells,et,c1,by simpa using c2,?_⟩
    intro i x v hx hv
    rw[List.getElem?_set]at hx
    split at hx
    ·rename_i hi
     subst hi
     split at hx
     ·obtain rfl:=oi hx
      have h3:=(c3 o .nil v ho hv).2
      cases h3
      exact⟨rfl,.locNil 0 nx s none (by simpa using htn)⟩
     ·cases hx
    ·exact c3 i x v hx hv)
  rw[Zdp hkb]at hturn
  refine⟨fm,_,⟨hturn,h.tm.mono (Zdq.refl _) hT1,?_,h.size,h.dfr⟩,⟨FmUp.refl _ _,?_,?_⟩,hvs.mono (Zdq.refl _) ?_⟩
  ·intro j hj
   have hj':nx+16≤j:=hj
   rw[htb 0 j (by omega)]
   exact h.nx j (by show nx≤j;omega)
  ·exact hT1.drop 1
  ·intro l j e1
   rw[Zbg]at e1 ⊢
   rw[htb (l+1) j (by omega)]
   exact e1
  ·intro l j
   cases l with
   |zero=>exact Zec.refl _
   |succ l=>exact hT1 l j
theorem ZhO {tm:List (Nat×AV)}{fr:Fra}{low:Zam}{nx nt:Nat} (k o e s:Nat) {cs:List AV} (hk:look fr k=some (.box cs)) (ho:cs[o]?=some .nil)
  (h:ZbX P n Φ (.call f args dst drop todo ⟨tm,ins (ins fr nx (.arr e s [])) k (.box (cs.set o (.loc 0 nx s 0 0 0))),low,nx+16,nt⟩)):ZbX P n Φ (.call f args dst drop todo ⟨tm,fr,low,nx,nt⟩):=
 ZgU (Zeb.wake k o e s hk ho) h
end
def aP {α:Type} (z:Nat) (E:α→List AV):Option α→AV
 |none=>.pnil
 |some x=>.rptr z [E x] 0 0
section
variable {α:Type}{z:Nat}{E:α→List AV} (x:Option α)
theorem ZsC (y:α):aP z E (some y)=.rptr z [E y] 0 0:=rfl
theorem ZsA:aP z E none=.pnil:=rfl
theorem Zvk (d:Nat):(aP z E x).sh d=aP z E x:=by cases x<;>rfl
theorem Zub (G:Get):(aP z E x).frz G=some (aP z E x):=by cases x<;>rfl
theorem Zvj (G:Get) (F:Nat→Nat→Option (List AV)):(aP z E x).br G F=some (aP z E x):=by cases x<;>rfl
theorem ZsB:(aP z E x).refs=[]:=by cases x<;>rfl
theorem Zuc (k:Nat):(aP z E x).imp k=aP z E x:=by cases x<;>rfl
theorem Zud (ks:List Nat):(aP z E x).ren ks=some (aP z E x):=by cases x<;>rfl
theorem Zvl (d:Nat):(aP z E x).un d=some (aP z E x):=by cases x<;>rfl
theorem Zs9:(aP z E x).flat=true:=by cases x<;>rfl
end
attribute [go_sem] ZlB Zpx ZsC ZsA Zvk Zub Zvj ZsB Zuc Zud Zvl Zs9 ZqN Zmu St.norm ZlM ZgL AV.ren AV.renL Blk.ren Zra idx ZqJ Blk.lo AV.lo AV.lot
def Zp5 {α:Type} (n:Int) (b:Nat) (z:α):Option (List α):=(mk? n b).map fun _=>List.replicate n.toNat z
theorem ZqK {α:Type}{n:Int}{b:Nat}{z:α}{l:List α} (h:Zp5 n b z=some l):∃ u,mk? n b=some u:=by
 unfold Zp5 at h
 obtain⟨u,hu,_⟩:=mS.1 h
 exact⟨u,hu⟩
theorem Zpb {α:Type}{n:Int}{b:Nat}{z:α}{l:List α} (h:Zp5 n b z=some l):l=List.replicate n.toNat z:=by
 unfold Zp5 at h
 obtain⟨u,_,hl⟩:=mS.1 h
 exact hl.symm
theorem ZsW {α β:Type} (E:α→β) {n:Int}{b:Nat}{z:α}{l:List α} (h:Zp5 n b z=some l):List.replicate n.toNat (E z)=List.map E l:=by
 rw[Zpb h,List.map_replicate]
theorem ZsV {α:Type}{n:Int}{b:Nat}{z:α}{l:List α} (h:Zp5 n b z=some l):l.length=n.toNat:=by
 rw[Zpb h];simp
theorem ZqL {α β:Type} (E:α→β) {n:Int}{b:Nat}{z:α}{l:List α} (h:Zp5 n b z=some l):List.take n.toNat (List.map E l)=List.map E l:=by
 rw[Zpb h];simp
def Lf {α:Type} (E:α→List AV):Prop:=∀ x,∀ y∈E x,y.leaf=true
theorem ZvW:Lf eI:=fun x y h=>by simp only[eI,List.mem_singleton]at h;subst h;rfl
theorem ZsR:Lf eU8:=fun x y h=>by simp only[eU8,List.mem_singleton]at h;subst h;rfl
theorem Lf.vec {n:Nat}{α:Type}{E:α→List AV} (h:Lf E):Lf (Vec.c (n:=n) E):=by
 intro v y hy
 unfold Vec.c at hy
 rw[List.mem_flatten]at hy
 obtain⟨l,hl,hy⟩:=hy
 obtain⟨x,_,rfl⟩:=List.mem_map.1 hl
 exact h x y hy
theorem Lf.map {α:Type}{E:α→List AV} (h:Lf E) (l:List α):(∀ c∈List.map E l,∀ x∈c,x.leaf=true):=by
 intro c hc x hx
 obtain⟨y,_,rfl⟩:=List.mem_map.1 hc
 exact h y x hx
end
end Go.Abs
namespace Go.Abs
open Go Go.RowKit
set_option linter.unusedSectionVars false
section
variable {P:Program}{T:Tys}{N0:Nat}{W0:World}{fm:FM}{ts:List Tie}{H:Zam}{w:World}
def Zt4 (T:Tys) (rs:List ResultVar) (R:AV→Fra→Zam→Prop) (Rp:List PanicEntry→Zam→Prop) (e:Exit) (st:St):Prop:=
 match e with
 |.normal|.ret=>∃ xs y,Zcu T st rs=some xs∧(Zb0 xs).ren []=some y∧R y [] st.low
 |.panic ch=>Rp ch st.low
 |_=>False
theorem Zgt.of_body (hT : ZaL P T) {f : FuncId} {fn : Func} {c : Code} {sc : SC} {args : List AV} {H : Zam} {R : AV → Fra → Zam → Prop} {Rp : List PanicEntry → Zam → Prop} (hf : P.funcs[f]? = some fn) (hb : fn.body = some c) (hnm : (fn.name == "runtime.NumGoroutine") = false)
  (he:sc.bare=Zba fn.ntmps c) (hfit:(Zba fn.ntmps c).fits fn.ntmps=true) (hargs:args.length≤fn.ntmps)
  (h:AK P fn.ntmps (Zt4 T fn.results.toList R Rp) [.sc sc] (St.enter args H fn.ntmps)) (hlow:∀ y fr H',R y fr H'→H'.length=H.length) (hlowp:∀ ch H',Rp ch H'→H'.length=H.length):Zgt P f args H R Rp:=by
 refine⟨⟨fn,hf,hnm,by simp[hb]⟩,?_⟩
 intro N0 W0 fm ts w vs hH hv
 refine calls_of_wp hf hb ((Zd8 []).1 ?_)
 have hS:=SR.enter hH hv hargs
 have:=h N0 W0 fm (Zcc::ts) _ w [.code c] (bodyPost P fn fun e w'=>(∃ v av fr' H' fm' t' ts',e=.returned v∧R av fr' H'∧H'.length=H.length∧HR N0 W0 fm' (t'::ts') (fr'::H') w'∧VR fm' (t'::ts') av v∧FmUp N0 fm fm'∧ZaA ts ts'∧
   (∀ l k,tb ts l k=none→tb ts' l k=none)∧∀ k,16≤k→t' k=none)∨
   ∃ ch H' fm' ts',e=.panicked ch∧Rp ch H'∧H'.length=H.length∧HR N0 W0 fm' ts' H' w'∧FmUp N0 fm fm'∧ZaA ts ts'∧∀ l k,tb ts l k=none→tb ts' l k=none) hS (.sc he hfit .nil) ?_
 ·exact this
 ·intro e st' a' w' fm' ts' hE hS' hL
  cases ts' with
  |nil=>have:=hS'.hr.len;simp at this
  |cons t rest=>
   have hts:ZaA ts rest:=by simpa using hL.tle
   have hno:∀ l k,tb ts l k=none→tb rest l k=none:=by simpa using hL.no
   cases e with
   |normal=>
    obtain⟨xs,y,hxs,hy,hR⟩:=hE
    obtain⟨v,h1,h2⟩:=Zc9 (P:=P) hT hS' hxs
    exact⟨hS'.dfr,v,h1,.inl ⟨v,y,[],st'.low,fm',Zho [] t,rest,rfl,hR,hlow _ _ _ hR,hS'.hr.ren rfl (by simp),h2.ren rfl hy,hL.fle,hts,hno,fun k hk'=>rfl⟩⟩
   |ret=>
    obtain⟨xs,y,hxs,hy,hR⟩:=hE
    obtain⟨v,h1,h2⟩:=Zc9 (P:=P) hT hS' hxs
    exact⟨hS'.dfr,v,h1,.inl ⟨v,y,[],st'.low,fm',Zho [] t,rest,rfl,hR,hlow _ _ _ hR,hS'.hr.ren rfl (by simp),h2.ren rfl hy,hL.fle,hts,hno,fun k hk'=>rfl⟩⟩
   |panic ch=>exact⟨hS'.dfr,.inr ⟨ch,st'.low,fm',rest,rfl,hE,hlowp _ _ hE,hS'.hr.pop,hL.fle,hts,hno⟩⟩
   |_=>exact hE.elim
section
variable [Md] {n:Nat}{Φ:Exit→St→Prop}{f:FuncId}{args:List AV}{dst:Option Tmp}{drop:List Nat}{todo:List It}{st:St}
theorem ZbR {R:AV→Fra→Zam→Prop}{Rp:List PanicEntry→Zam→Prop} (hp:Zgt P f args (st.fr::st.low) R Rp) (h:∀ y fr H,R y fr H→AK P n Φ todo (st.took dst drop y fr H)) (h2:∀ ch H,Rp ch H→Φ (.panic ch) (st.withHeap H)):
  ZbX P n Φ (.call f args dst drop todo st):=⟨_,_,R,Rp,Zeb.refl _ _ _,hp,h,h2⟩
theorem ZmC {t:TypeId}{x:AV} (h:∀ fm ts u,VR fm ts x u→Φ (.panic [{ v:=.iface t u,recovered:=false }]) st):ZbX P n Φ (.throw (.ifc t x) st):=⟨t,x,rfl,h⟩
theorem ZjV {rs:List ResultVar}{R:AV→Fra→Zam→Prop}{Rp:List PanicEntry→Zam→Prop}{e:Exit}{y0:AV} (he:e=.ret∨e=.normal) (h1:((Zcu T st rs).bind fun xs=>(Zb0 xs).ren [])=some y0) (h2:R y0 [] st.low):ZbX P n (Zt4 T rs R Rp) (.fin e st):=by
 obtain⟨xs,h3,h4⟩:=Option.bind_eq_some_iff.1 h1
 rcases he with rfl|rfl<;>exact⟨xs,y0,h3,h4,h2⟩
end
end
theorem Zm1 (ks:List Nat) (b:List AV):∀ a:List AV,AV.renL ks (a++b)=(AV.renL ks a).bind fun x=>(AV.renL ks b).map (x++·)
 |[]=>by cases h:AV.renL ks b<;>simp[AV.renL,h]
 |u::a=>by
  simp only[List.cons_append,AV.renL,Zm1 ks b a]
  cases u.ren ks<;>cases AV.renL ks a<;>cases AV.renL ks b<;>rfl
theorem Zea {a:List AV} (h:Ice a) (ks:List Nat) (b:List AV):AV.renL ks (a++b)=(AV.renL ks b).map (a++·):=by
 rw[Zm1,h.ren];rfl
def Znn:Fra→Nat→Blk→Fra
 |[],_,_=>[]
 |(j,x)::l,k,b=>if j=k then (j,b)::l else (j,x)::Znn l k b
theorem Zpe {k:Nat}{b b':Blk} (hb:NLB b b'):∀ {fr:Fra},look fr k=some b→NLF fr (Znn fr k b')
 |[],h=>by simp[look]at h
 |(j,x)::l,h=>by
  simp only[look]at h
  by_cases hj:j=k
  ·rw[if_pos hj]at h
   obtain rfl:=oi h
   simp only[Znn,if_pos hj]
   exact .cons _ _ _ _ _ hb (.refl l)
  ·rw[if_neg hj]at h
   simp only[Znn,if_neg hj]
   exact .cons _ _ _ _ _ (.refl x) (Zpe hb h)
theorem AK.nlbox {P:Program}{n:Nat}{Φ:Exit→St→Prop}{todo:List It}{tm:List (Nat×AV)}{fr:Fra}{low:Zam}{nx nt:Nat} (k o e:Nat) {cs:List AV} (hk:look fr k=some (.box cs)) (ho:cs[o]?=some .nil)
  (h:AK P n Φ todo ⟨tm,Znn fr k (.box (cs.set o (.sl e []))),low,nx,nt⟩):AK P n Φ todo ⟨tm,fr,low,nx,nt⟩:=by
 refine AK.weak (Za7.nl (.refl tm) (Zpe (.box _ _ ⟨by simp,?_⟩) hk)) h
 intro i x y hx hy
 rw[List.getElem?_set]at hy
 split at hy
 ·rename_i hi
  subst hi
  rw[ho]at hx
  obtain rfl:=oi hx
  split at hy
  ·obtain rfl:=oi hy;exact .nil e
  ·cases hy
 ·rw[hx]at hy;obtain rfl:=oi hy;exact .refl x
attribute [go_sem] Znn
theorem Zmo (G:Get) (b:List AV):∀ a:List AV,AV.frzL G (a++b)=(AV.frzL G a).bind fun x=>(AV.frzL G b).map (x++·)
 |[]=>by cases h:AV.frzL G b<;>simp[AV.frzL,h]
 |u::a=>by
  simp only[List.cons_append,AV.frzL,Zmo G b a]
  cases u.frz G<;>cases AV.frzL G a<;>cases AV.frzL G b<;>rfl
theorem ZdX {a:List AV} (h:Ice a) (G:Get) (b:List AV):AV.frzL G (a++b)=(AV.frzL G b).map (a++·):=by
 rw[Zmo,h.frz];rfl
theorem Zl8 (k:Nat) (x:Blk) (b:List AV):∀ a:List AV,AV.fzL k x (a++b)=(AV.fzL k x a).bind fun y=>(AV.fzL k x b).map (y++·)
 |[]=>by cases h:AV.fzL k x b<;>simp[AV.fzL,h]
 |u::a=>by
  simp only[List.cons_append,AV.fzL,Zl8 k x b a]
  cases u.fz k x<;>cases AV.fzL k x a<;>cases AV.fzL k x b<;>rfl
theorem Zfk {a:List AV}{k:Nat}{x:Blk} (h:AV.fzL k x a=some a) (b:List AV):AV.fzL k x (a++b)=(AV.fzL k x b).map (a++·):=by
 rw[Zl8,h];rfl
theorem Zh0 {α:Type}{n:Nat}{E:α→List AV}{k:Nat}{x:Blk} (h:∀ y,AV.fzL k x (E y)=some (E y)) (v:Vec n α):AV.fzL k x (Vec.c E v)=some (Vec.c E v):=by
 have key:∀ l:List α,AV.fzL k x (l.map E).flatten=some (l.map E).flatten:=by
  intro l
  induction l with
  |nil=>rfl
  |cons y l ih=>simp only[List.map_cons,List.flatten_cons,Zl8,ih,h,Option.bind_some,Option.map_some]
 exact key v.l
theorem NLs.append {a b c d:List AV} (h:NLs a b) (k:NLs c d):NLs (a++c) (b++d):=by
 refine⟨by simp[h.1,k.1],?_⟩
 intro i x y hx hy
 by_cases hi:i<a.length
 ·rw[List.getElem?_append_left hi]at hx
  rw[List.getElem?_append_left (by rw[←h.1];exact hi)]at hy
  exact h.2 i x y hx hy
 ·rw[List.getElem?_append_right (by omega)]at hx
  rw[List.getElem?_append_right (by rw[←h.1];omega)]at hy
  rw[←h.1]at hy
  exact k.2 _ x y hx hy
end Go.Abs
namespace Go.Abs
open Go Go.RowKit
set_option linter.unusedSectionVars false
section
variable [Md] {P:Program}{T:Tys}{N0:Nat}{W0:World}{n:Nat}{fm:FM}{ts:List Tie}{st:St}{a:Act}{w:World}{Q:Exit→Act→World→Prop}
theorem AK.seg {Φ:Exit→St→Prop}{B:St→Prop}{c:Code}{s:SC}{t:List CIt} (hs:SR N0 W0 n st a w fm ts) (h:AK P n Φ [.sc s,.back B] st) (he:s.bare=Zba n c) (hf:(Zba n c).fits n=true)
  (hB:∀ st' a' w' fm' ts',B st'→SR N0 W0 n st' a' w' fm' ts'→Later N0 fm ts fm' ts'→K P Q t .normal a' w')
  (hΦ:∀ e st' a' w' fm' ts',Φ e st'→SR N0 W0 n st' a' w' fm' ts'→Later N0 fm ts fm' ts'→K P Q t e a' w'):K P Q (.code c::t) .normal a w:=by
 have h1:=h N0 W0 fm ts a w [.code c,.back (fun a' w'=>K P Q t .normal a' w')] (fun e a' w'=>K P Q t e a' w') hs
  (.sc he hf (.back (fun st' a' w' fm' ts' hb hs' hl=>hB st' a' w' fm' ts' hb hs' hl) .nil)) hΦ
 rw[ZjX]at h1 ⊢
 refine wpIn_mono h1 ?_
 intro e a' w' hk
 cases e<;>exact hk
theorem ZuG {arr:Array Oper}{i:Nat}{is:List Nat}{o:Oper}{t:List CIt} (ho:arr[i]?=some o) (hg:o.guard=none) (h:o.wpIn FW 0 P a w (fun a' w'=>K P Q (.ops arr is::t) .normal a' w') (K P Q t)):K P Q (.ops arr (i::is)::t) .normal a w:=by
 unfold K
 simp only[wpOpsIn,ho]
 rw[if_pos (by simp[Region.wanted,hg])]
 exact h
theorem ZnJ {arr:Array Oper}{t:List CIt} (h:K P Q t .normal a w):K P Q (.ops arr []::t) .normal a w:=by
 unfold K;simp only[wpOpsIn];exact h
theorem AK.last {Φ:Exit→St→Prop}{c:Code}{s:SC} (hs:SR N0 W0 n st a w fm ts) (h:AK P n Φ [.sc s] st) (he:s.bare=Zba n c) (hf:(Zba n c).fits n=true)
  (hΦ:∀ e st' a' w' fm' ts',Φ e st'→SR N0 W0 n st' a' w' fm' ts'→Later N0 fm ts fm' ts'→Q e a' w'):K P Q [.code c] .normal a w:=
 h N0 W0 fm ts a w [.code c] Q hs (.sc he hf .nil) hΦ
end
theorem ZuF (m m':Md) (h:m.rnd=m'.rnd) {P:Program}{Q:Exit→Act→World→Prop}:∀ t:List CIt,@K m P Q t=@K m' P Q t
 |[]=>by funext e a w;simp only[K]
 |it::t=>by
  have hF:@FW m=@FW m':=by unfold FW;rw[h]
  have ih:=ZuF m m' h (P:=P) (Q:=Q) t
  funext e a w
  cases it<;>simp only[K,ih,hF]
theorem SR.deep [Md] {N0:Nat}{W0:World}{n:Nat}{tm tm':List (Nat×AV)}{fr:Fra}{low:Zam}{nx nt:Nat}{a:Act}{w:World}{fm:FM}{ts:List Tie} (h:SR N0 W0 n ⟨tm,fr,low,nx,nt⟩ a w fm ts) (ht:∀ t x,look tm' t=some x→∃ y,look tm t=some y∧x=y.sh 1):
  SR N0 W0 n ⟨tm',[],fr::low,0,nt⟩ a w fm (Zcc::ts):=
 ⟨h.hr.push,fun t x hx=>by
  obtain⟨y,hy,rfl⟩:=ht t x hx
  obtain⟨v,h1,h2⟩:=h.tm t y hy
  exact⟨v,h1,h2.sh 1 (by simp)⟩,fun _ _=>rfl,h.size,h.dfr⟩
theorem SR.dfs (m m':Md) {N0:Nat}{W0:World}{n:Nat}{st:St}{a:Act}{w:World}{fm:FM}{ts:List Tie} (h:@SR m N0 W0 n st a w fm ts) {a':Act} (ht:a'.tmps=a.tmps) (hd:a'.defers=m'.dfs):@SR m' N0 W0 n st a' w fm ts:=by
 obtain⟨h1,h2,h3,h4,h5⟩:=h
 refine @SR.mk m' _ _ _ _ _ _ _ _ h1 (fun t x hx=>?_) h3 (by rw[ht];exact h4) hd
 obtain⟨v,h6,h7⟩:=h2 t x hx
 exact⟨v,by rw[ht];exact h6,h7⟩
theorem Znu [Md] {P:Program}{o:Oper}{a:Act}{w w':World}{next:Act→World→Prop}{Q:Exit→Act→World→Prop}{d:Deferred} (hr:(execOp a.eval o).run P w=.ok (.defer d) w') (hm:Md.rnd=none) (h:next ({ a with defers:=d::a.defers }.put o.dst undef) w'):o.wpIn FW 0 P a w next Q:=by
 refine⟨fun _ _=>trivial,?_⟩
 show Oper.uponIn FW 0 P o a next Q (Sem.run P (Oper.semAt Md.rnd a.eval o) w)
 rw[hm,Oper.semAt_none,hr]
 exact h
end Go.Abs
namespace Go.Abs
open Go Go.RowKit
set_option linter.unusedSectionVars false
section
variable [Md] {P:Program}{T:Tys}{N0:Nat}{W0:World}{n:Nat}{fm:FM}{ts:List Tie}{st:St}{a:Act}{w:World}{Q:Exit→Act→World→Prop}
theorem Zf0:∀ (s t:List CIt) (e:Exit) (a:Act) (w:World),K P Q (s++t) e a w=K P (fun e a w=>K P Q t e a w) s e a w
 |[],t,e,a,w=>rfl
 |.code c::s,t,e,a,w=>by
  have ih:K P Q (s++t)=K P (fun e a w=>K P Q t e a w) s:=by funext e a w;exact Zf0 s t e a w
  cases e<;>simp only[List.cons_append,K,ih]
 |.blk id::s,t,e,a,w=>by
  have ih:K P Q (s++t)=K P (fun e a w=>K P Q t e a w) s:=by funext e a w;exact Zf0 s t e a w
  cases e<;>simp only[List.cons_append,K,ih]
 |.scp::s,t,e,a,w=>by
  have ih:K P Q (s++t)=K P (fun e a w=>K P Q t e a w) s:=by funext e a w;exact Zf0 s t e a w
  cases e<;>simp only[List.cons_append,K,ih]
 |.ops arr l::s,t,e,a,w=>by
  have ih:K P Q (s++t)=K P (fun e a w=>K P Q t e a w) s:=by funext e a w;exact Zf0 s t e a w
  cases e<;>simp only[List.cons_append,K,ih]
 |.back R::s,t,e,a,w=>by
  have ih:K P Q (s++t)=K P (fun e a w=>K P Q t e a w) s:=by funext e a w;exact Zf0 s t e a w
  cases e<;>simp only[List.cons_append,K,ih]
theorem ZkL {arr:Array Oper}{t:List CIt}:∀ is js:List Nat,wpOpsIn FW 0 P arr (K P Q (.ops arr js::t)) is=wpOpsIn FW 0 P arr (K P Q t) (is++js)
 |[],js=>by funext a w;rfl
 |i::is,js=>by
  have ih:=ZkL (arr:=arr) (t:=t) is js
  funext a w
  simp only[List.cons_append,wpOpsIn]
  cases arr[i]? with
  |none=>simp only[ih]
  |some o=>
   simp only[ih]
   rfl
theorem ZnI {arr:Array Oper}{t:List CIt}{is js:List Nat} (h:K P Q (.ops arr is::.ops arr js::t) .normal a w):K P Q (.ops arr (is++js)::t) .normal a w:=by
 have e:=ZkL (P:=P) (Q:=Q) (arr:=arr) (t:=t) is js
 show wpOpsIn FW 0 P arr (K P Q t) (is++js) a w
 rw[←e]
 exact h
theorem ZcO {c:Code}{t t':List CIt} (h:∀ e a w,K P Q t e a w→K P Q t' e a w):∀ e a w,K P Q (.code c::t) e a w→K P Q (.code c::t') e a w:=by
 intro e a w hk
 cases e<;>first|exact h _ _ _ hk|exact wpIn_mono hk (fun e a w=>h e a w)
theorem ZdP {x y:Code}{t:List CIt}:∀ e a w,K P Q (.code x::.code y::t) e a w→K P Q (.code (.seq x y)::t) e a w:=by
 intro e a w hk
 cases e<;>first|exact hk|exact ZjY hk
theorem Zt9 {id:Nat}{ops:Array Oper}{t:List CIt}:∀ e a w,K P Q (.ops ops (List.range ops.size)::t) e a w→K P Q (.code (.region id ops false)::t) e a w:=by
 intro e a w hk
 cases e<;>first|exact hk|exact Zjh hk
theorem Zt8 {arr:Array Oper}{is js:List Nat}{t:List CIt}:∀ e a w,K P Q (.ops arr is::.ops arr js::t) e a w→K P Q (.ops arr (is++js)::t) e a w:=by
 intro e a w hk
 cases e<;>first|exact hk|exact ZnI hk
theorem Znw {o:Oper}{w':World}{next:Act→World→Prop}{l fn:Nat}{tmps:Array Value}{assign body:Code} (hd:∀ c,o.op≠.defer c) (hr:(execOp a.eval o).run P w=.ok (.round l fn tmps assign body) w')
  (h:RoundIn FW 0 P l fn tmps assign body w' fun
   |.returned v,w''=>next (a.put o.dst v) w''
   |.panicked chain,w''=>Q (.panic chain) a w''
   |.outgrown,_=>LetsOut Q):o.wpIn FW 0 P a w next Q:=by
 refine⟨fun _ _=>trivial,?_⟩
 rw[Oper.semAt_eq _ _ _ hd,hr]
 exact⟨fun h=>by simp[FW]at h,h⟩
theorem AK.segs {Φ:Exit→St→Prop}{B:St→Prop}{todo:List It}{cs t:List CIt} (hs:SR N0 W0 n st a w fm ts) (h:AK P n Φ (todo++[.back B]) st)
  (hsim:∀ R:Act→World→Prop,(∀ st' a' w' fm' ts',B st'→SR N0 W0 n st' a' w' fm' ts'→Later N0 fm ts fm' ts'→R a' w')→Sim N0 W0 n fm ts (todo++[.back B]) (cs++[.back R]))
  (hB:∀ st' a' w' fm' ts',B st'→SR N0 W0 n st' a' w' fm' ts'→Later N0 fm ts fm' ts'→K P Q t .normal a' w')
  (hΦ:∀ e st' a' w' fm' ts',Φ e st'→SR N0 W0 n st' a' w' fm' ts'→Later N0 fm ts fm' ts'→K P Q t e a' w'):K P Q (cs++t) .normal a w:=by
 have h1:=h N0 W0 fm ts a w (cs++[.back (fun a' w'=>K P Q t .normal a' w')]) (fun e a' w'=>K P Q t e a' w') hs (hsim _ hB) hΦ
 rw[Zf0]at h1 ⊢
 have e:(fun e a w=>K P (fun e a' w'=>K P Q t e a' w') [.back (fun a' w'=>K P Q t .normal a' w')] e a w)=fun e a w=>K P Q t e a w:=by
  funext e a w
  cases e<;>rfl
 rw[e]at h1
 exact h1
end
section
variable {N0:Nat}{W0 W1:World}{fm:FM}{ts:List Tie}{H:Zam}{w w':World}
theorem HR.rebase (h:HR N0 W0 fm ts H w):HR N0 w fm ts H w:={ h with bel:=Below.refl N0 w,oth:=fun _ _ a _=>a }
theorem HR.other (h:HR N0 W0 fm ts H w) {l:Nat}{o o':Obj} (hl:w.heap[l]?=some o) (ho:ZuD o=true) (hN:N0≤l):HR N0 (w.putObj l o') fm ts H (w.putObj l o'):=by
 have hlt:=(Array.getElem?_eq_some_iff.1 hl).1
 have oth:∀ i,i≠l→(w.putObj l o').heap[i]?=w.heap[i]?:=fun i hi=>World.putObj_heap_other (by omega)
 refine⟨h.len,fun l' k b hg=>(h.blk l' k b hg).mono (fun _ _ _ a=>a) (ZaA.refl _) (fun c hc=>oth c ?_),h.inj,fun b q v hv=>?_,h.fmd,Below.refl _ _,?_,fun _ _ a _=>a⟩
 ·rintro rfl
  have hb:=h.blk l' k b hg
  generalize tb ts l' k=tt at hb hc
  cases hb with
  |box c' cs hN hb=>
   obtain⟨cells,et,h1,_⟩:=hb
   simp only[tbc,oE]at hc
   subst hc
   rw[h1]at hl
   cases hl
   cases ho
  |nil et esz=>simp[tbc]at hc
  |arr et esz es c' cap hN hb=>
   obtain⟨cells,h1,_⟩:=hb
   simp only[tbc,oE]at hc
   subst hc
   rw[h1]at hl
   cases hl
   cases ho
 ·have h1:=h.fms _ _ _ hv
  refine(World.cell?_of_block (w:=w) (w':=w.putObj l o') (a:=⟨b,q,none⟩) (oth b ?_)).trans h1
  rintro rfl
  simp only[World.cell?,hl]at h1
  cases o<;>first|(cases ho;done)|(cases h1;done)
 ·have:=h.size
  show N0≤(w.putObj l o').heap.size
  simpa [World.putObj] using this
theorem HR.alloc (h:HR N0 W0 fm ts H w) (o:Obj):HR N0 W0 fm ts H (w.alloc o):=
 h.world (fun i hi=>Below.heap_alloc w o i hi) ((Below.refl N0 w).alloc h.size o)
end
theorem Zr0 [Md] {P:Program}{T:Tys} (hT:ZaL P T) {N0:Nat}{W0:World}{fm:FM}{ts:List Tie}{st:St}{a:Act}{w:World}{n:Nat}{fn:Func}{v:AV} (hS:SR N0 W0 n st a w fm ts)
  (hE:Zlp T fn.results.toList (fun y=>NL y v) .ret st):∃ u fm',(results fn a.tmps).run P w=.ok u w∧VR fm' [] v u∧Ztu fm' w∧FmUp N0 fm fm':=by
 obtain⟨hl,xs,y,h1,h2,h3⟩:=hE
 obtain⟨u,h4,h5⟩:=Zc9 (P:=P) hT hS h1
 have h6:=hS.hr.frz (Zb0 xs).refs h5 h2 (fun _ h=>h)
 have h7:=hS.hr.letGo (Zb0 xs).refs
 exact⟨u,_,h4,h3.ok h6,h7.fms,hS.hr.fmUp _⟩
end Go.Abs
namespace Go.Abs
open Go Go.RowKit
end Go.Abs
namespace Go.Abs
open Go
end Go.Abs
namespace Go.Abs
open Go Go.RowKit
set_option linter.unusedSectionVars false
section
variable [Md] {P:Program}{T:Tys}{n:Nat}{Φ:Exit→St→Prop}{f:FuncId}{args:List AV}{dst:Option Tmp}{drop:List Nat}{todo:List It}
theorem Za7.fzW {N0:Nat}{W0:World}{a:Act}{w:World}{fm:FM}{ts:List Tie}{tm:List (Nat×AV)}{fr:Fra}{low:Zam}{nx nt:Nat} (k:Nat) {b:Blk} (hk:look fr k=some b) (hz:∀ ys,b=.box ys→AV.frzL (fun _ _=>none) ys=some ys)
  (h:SR N0 W0 n ⟨tm,fr,low,nx,nt⟩ a w fm ts):SR N0 W0 n ⟨Zr1 k b tm,ZnC k b fr,low,nx,nt⟩ a w (Zdy fm w (tbc (tb ts 0 k))) ts∧Later N0 fm ts (Zdy fm w (tbc (tb ts 0 k))) ts:=by
 have hg0:Zam.get (fr::low) 0 k=some b:=by simpa [Zam.get] using hk
 have hF:=Zg6 h.hr (tbc (tb ts 0 k))
 have hbr:=h.hr.blk 0 k b hg0
 have src:∀ l j x,Zam.get (ZnC k b fr::low) l j=some x→∃ x0,Zam.get (fr::low) l j=some x0∧¬ (l=0∧j=k)∧(l=0→x=Blk.fz k b x0)∧(l≠0→x=x0):=by
  intro l j x hx
  cases l with
  |zero=>
   simp only[Zam.get,ZgC]at hx
   split at hx
   ·cases hx
   ·rename_i hj
    simp only[mS]at hx
    obtain⟨x0,hx0,rfl⟩:=hx
    exact⟨x0,hx0,fun hh=>hj hh.2,fun _=>rfl,fun hh=>absurd rfl hh⟩
  |succ l=>exact⟨x,hx,fun hh=>absurd hh.1 (by omega),fun hh=>absurd hh (by omega),fun _=>rfl⟩
 refine⟨⟨⟨by simpa using h.hr.len,?_,?_,?_,?_,h.hr.bel,h.hr.size,h.hr.oth⟩,?_,h.nx,h.size,h.dfr⟩,⟨⟨hF,?_⟩,ZaA.refl _,fun _ _ h=>h⟩⟩
 ·intro l j x hx
  obtain⟨x0,hx0,hne,h1,h2⟩:=src l j x hx
  have hb:=h.hr.blk l j x0 hx0
  cases l with
  |zero=>
   rw[h1 rfl]
   exact h.hr.fz_blk hg0 hz hb
  |succ l=>
   rw[h2 (by omega)]
   exact hb.mono hF (ZaA.refl _) (fun _ _=>rfl)
 ·intro l j l' j' x x' c hx hx'
  obtain⟨x0,hx0,_⟩:=src l j x hx
  obtain⟨x1,hx1,_⟩:=src l' j' x' hx'
  exact h.hr.inj l j l' j' x0 x1 c hx0 hx1
 ·intro c o v hv
  unfold Zdy at hv
  split at hv
  ·exact hv
  ·exact h.hr.fms c o v hv
 ·intro l j x c o hx hc
  obtain⟨x0,hx0,hne,_⟩:=src l j x hx
  unfold Zdy
  rw[if_neg]
  ·exact h.hr.fmd l j x0 c o hx0 hc
  ·intro e
   exact hne (h.hr.inj l j 0 k x0 b c hx0 hg0 hc e)
 ·intro t x hx
  simp only[Zio,mS]at hx
  obtain⟨x0,hx0,rfl⟩:=hx
  obtain⟨v,hv,hvr⟩:=h.tm t x0 hx0
  refine⟨v,hv,?_⟩
  cases hf:x0.fz k b with
  |none=>exact hvr.mono hF (ZaA.refl _)
  |some y=>exact h.hr.fz hg0 hz hvr rfl hf
 ·intro c o hc
  unfold Zdy
  rw[if_neg]
  intro e
  have:=(hbr.lt e).2
  omega
def Zmp (k:Nat) (b:Blk) (args:List AV):Option (List AV):=
 match AV.unL 1 args with
 |some xs=>match AV.fzL k b xs with
  |some ys=>some (AV.shL 1 ys)
  |none=>none
 |none=>none
theorem Zeb.fz {args1:List AV}{tm:List (Nat×AV)}{fr:Fra}{low:Zam}{nx nt:Nat} (k:Nat) {b:Blk} (hk:look fr k=some b) (hz:∀ ys,b=.box ys→AV.frzL (fun _ _=>none) ys=some ys) (ea:Zmp k b args=some args1):
  Zeb n ⟨tm,fr,low,nx,nt⟩ args ⟨Zr1 k b tm,ZnC k b fr,low,nx,nt⟩ args1:=by
 intro N0 W0 a w fm ts vs h hv
 obtain⟨h1,h2⟩:=Za7.fzW k hk hz h
 refine⟨_,_,h1,h2,?_⟩
 unfold Zmp at ea
 split at ea
 ·rename_i xs hxs
  split at ea
  ·rename_i ys hys
   obtain rfl:=oi ea
   have h3:=ZlW hxs hv
   have h4:VRs fm ts xs vs:=by simpa using h3
   refine Zps ?_
   have g:=Zgg k b _ _ hys
   refine⟨by rw[g.1];exact h4.1,fun i y v hy hv'=>?_⟩
   have hlt:i<xs.length:=by rw[←g.1];exact(gS.1 hy).1
   obtain⟨y',hy',hu⟩:=g.2 i _ (gG hlt)
   rw[hy]at hy';obtain rfl:=oi hy'
   exact h.hr.fz (by simpa [Zam.get] using hk) hz (h4.2 i _ v (gG hlt) hv') rfl hu
  ·cases ea
 ·cases ea
def Zvn (P:Program) (n:Nat) (Φ:Exit→St→Prop) (f:FuncId) (dst:Option Tmp) (drop:List Nat) (todo:List It) (st:St):Option (List AV)→Prop
 |some args1=>ZbX P n Φ (.call f args1 dst drop todo st)
 |none=>False
theorem ZoS {st1:St}{args1:List AV}:Zvn P n Φ f dst drop todo st1 (some args1)=ZbX P n Φ (.call f args1 dst drop todo st1):=rfl
theorem Zma {tm:List (Nat×AV)}{fr:Fra}{low:Zam}{nx nt:Nat} (k:Nat) {b:Blk} (hk:look fr k=some b) (hz:∀ ys,b=.box ys→AV.frzL (fun _ _=>none) ys=some ys)
  (h:Zvn P n Φ f dst drop todo ⟨Zr1 k b tm,ZnC k b fr,low,nx,nt⟩ (Zmp k b args)):ZbX P n Φ (.call f args dst drop todo ⟨tm,fr,low,nx,nt⟩):=by
 unfold Zvn at h
 split at h
 ·rename_i args1 h1
  exact ZgU (Zeb.fz k hk hz h1) h
 ·exact h.elim
attribute [go_sem] ZoS Zmp
end
end Go.Abs
namespace Go.Abs
open Go Go.RowKit
set_option linter.unusedSectionVars false
section
variable [Md] {P:Program}{T:Tys}{n:Nat}{Φ:Exit→St→Prop}
theorem AK.drawLast (hT:ZaL P T) (hm:P.follows .mixedOrders=true) {ops:List SOp}{o:SOp}{befs:List (List Nat)}{drop:List Nat}{todo:List It}{st:St} (ds:List De) (hds:∀ j,j<ops.length→∃ d,ds[j]?=some d) (h1:ZhQ ops)
  (hbl:∀ i j,j∈ZaW befs i→j<i) (hap:∀ i j,i<j→j<ops.length→i∉ZaW befs j→ZeX (Zbn ds i) (Zbn ds j))
  (heff:∀ i s d,ops[i]?=some s→ds[i]?=some d→ZnH P T (st.nx+16*i) s (look (Zh7 ops befs ds st.tm i)) (Zam.get (Znf ops befs ds (st.fr::st.low) i)) d)
  (hbm:∀ j,j<ops.length→j∈ZaW befs ops.length) (hgd:∀ s∈ops,∀ g w,s.guard=some (g,w)→g≠o.dst.getD n)
  (hn:AK P n Φ (.ops [⟨o.dst,o.op,o.type,o.guard,drop⟩]::todo) (st.drawn ops ds [])):AK P n Φ (.sc (.dreg (ops++[o]) befs drop)::todo) st:=by
 intro N0 W0 fm ts a w ct Q hS hsim hQ
 obtain⟨c,ct',hns,hb,hf,ht,hK⟩:=hsim.sc_inv (P:=P) rfl
 apply hK
 cases c<;>try (simp only[SC.bare,Zba,reduceCtorEq]at hb;done)
 case scope b=>exact absurd rfl (hns b)
 case region rid arr dr=>
  cases dr with
  |false=>simp[SC.bare,Zba]at hb
  |true=>
   simp only[SC.bare,Zba,SC.dreg.injEq,and_true]at hb
   obtain⟨hb1,hb2⟩:=hb
   simp only[Zba,SC.fits,List.all_eq_true]at hf
   have ZbS:ops.length+1=arr.size:=by have:=congrArg List.length hb1;simpa using this
   obtain⟨m,hm'⟩:∃ m,ops.length=m:=⟨_,rfl⟩
   have hma:m<arr.size:=by omega
   have hmo:Zdi o=ZcV n arr arr[m]:=by
    have e:=congrArg (fun l=>l[m]?) hb1
    simp only[List.map_append,List.map_cons,List.map_nil]at e
    rw[List.getElem?_append_right (by simp;omega)]at e
    simp only[List.length_map,hm',Nat.sub_self,List.getElem?_cons_zero,List.getElem?_map,Array.getElem?_toList,Array.getElem?_eq_getElem hma,Option.map_some,oE]at e
    exact e
   have hat:∀ i,(him:i<m)→(hi:i<arr.size)→∃ s,ops[i]?=some s∧s.dst=(arr[i]).dst∧s.op=(arr[i]).op∧s.type=(arr[i]).type∧s.guard=(arr[i]).guard.map (fun g=>(((arr[g.1]?).bind (·.dst)).getD n,g.2)):=by
    intro i him hi
    have hlt:i<ops.length:=by omega
    refine⟨ops[i],gG hlt,?_⟩
    have e:=congrArg (fun l=>l[i]?) hb1
    simp only[List.map_append]at e
    rw[List.getElem?_append_left (by simpa using hlt)]at e
    simp only[List.getElem?_map,gG hlt,Option.map_some,Array.getElem?_toList,Array.getElem?_eq_getElem hi,oE]at e
    simp only[Zdi,ZcV,SOp.mk.injEq,and_true]at e
    obtain⟨e1,e2,e3,e4⟩:=e
    exact⟨e1,e2,e3,e4⟩
   have hbef:∀ i,(hi:i<arr.size)→∀ x,x∈ZaW befs i↔∃ e∈(arr[i]).after.toList,Region.binds .any e=true∧(x=e.on∨(e.on<i∧x∈ZaW befs e.on)):=by
    intro i hi x
    obtain⟨b',g1,g2,g3⟩:=ZgW arr.toList [] i arr[i] (by simp[hi])
    simp only[List.length_nil,Nat.zero_add]at g1 g2
    have e1:ZaW befs i=Zjv b' [] (arr[i]).after.toList:=by unfold ZaW;rw[hb2,g1];rfl
    rw[e1,Zis]
    simp only[List.not_mem_nil,false_or]
    have e2:∀ e:Edge,x∈(b'[e.on]?).getD []↔(e.on<i∧x∈ZaW befs e.on):=by
     intro e
     by_cases hj:e.on<b'.length
     ·rw[g3 _ hj]
      unfold ZaW
      rw[hb2]
      rw[g2]at hj
      simp[hj]
     ·rw[List.getElem?_eq_none (by omega)]
      simp
      omega
    constructor
    ·rintro⟨e,h1,h2,h3⟩
     exact⟨e,h1,h2,h3.imp id (e2 e).1⟩
    ·rintro⟨e,h1,h2,h3⟩
     exact⟨e,h1,h2,h3.imp id (e2 e).2⟩
   refine wpIn_region_any hm ?_
   have hrep:∀ j,(Array.replicate arr.size false).getD j false=false:=by
    intro j
    by_cases hj:j<arr.size
    ·simp[Array.getD,hj]
    ·simp[Array.getD,hj]
   have key:∀ (fuel:Nat) (listed:Array Bool) (a:Act) (w:World) (fm':FM) (ts':List Tie),listed.size=arr.size→listed.getD m false=false→((List.range arr.size).countP fun j=>!listed.getD j false)≤fuel→
     (∀ j,listed.getD j false=true→∀ k∈ZaW befs j,listed.getD k false=true)→DR N0 W0 n st ops ds (fun j=>listed.getD j false) a w fm' ts'→Later N0 fm ts fm' ts'→wpAnyIn FW 0 P .any arr (K P Q ct') fuel listed a w:=by
    intro fuel
    have fin:∀ (listed:Array Bool) (a:Act) (w:World) (fm':FM) (ts':List Tie),listed.size=arr.size→listed.getD m false=false→DR N0 W0 n st ops ds (fun j=>listed.getD j false) a w fm' ts'→Later N0 fm ts fm' ts'→Region.ready .any arr listed=[]→K P Q ct' .normal a w:=by
     intro listed a w fm' ts' hsz hlm hD hL hr
     have hall:∀ j,j<arr.size→listed.getD j false=true:=by
      intro j
      induction j using Nat.strongRecOn with
      |_ j ih=>
       intro hj
       by_cases hl:listed.getD j false=true
       ·exact hl
       ·have hin:j∈Region.ready .any arr listed:=by
         rw[mem_ready]
         have hlt:j<listed.size:=by omega
         refine⟨by simp[Array.getD,hlt]at hl ⊢;exact hl,arr[j],Array.getElem?_eq_getElem hj,?_⟩
         intro e he hb
         have hm:e.on∈ZaW befs j:=(hbef j hj e.on).2 ⟨e,by simpa using he,hb,.inl rfl⟩
         have:=hbl j e.on hm
         exact ih e.on this (by omega)
        rw[hr]at hin;cases hin
     rw[hall m hma]at hlm;cases hlm
    induction fuel with
    |zero=>
     intro listed a w fm' ts' hsz hlm hc hcl hD hL
     have hr:Region.ready .any arr listed=[]:=by
      cases h:Region.ready .any arr listed with
      |nil=>rfl
      |cons j l=>
       have hj:j∈Region.ready .any arr listed:=by rw[h];exact List.mem_cons_self
       rw[mem_ready]at hj
       obtain⟨h0,o,ho,_⟩:=hj
       have hlt:j<arr.size:=(Array.getElem?_eq_some_iff.1 ho).1
       have:0<(List.range arr.size).countP fun j=>!listed.getD j false:=by
        rw[List.countP_pos_iff]
        have hlt':j<listed.size:=by omega
        refine⟨j,List.mem_range.2 hlt,?_⟩
        simp[Array.getD,hlt']at h0 ⊢
        exact h0
       omega
     exact⟨hr,fin listed a w fm' ts' hsz hlm hD hL hr⟩
    |succ fuel ih=>
     intro listed a w fm' ts' hsz hlm hc hcl hD hL
     refine⟨fin listed a w fm' ts' hsz hlm hD hL,fun i hi=>?_⟩
     rw[mem_ready]at hi
     obtain⟨h0,o',ho,hall⟩:=hi
     have hlt:i<arr.size:=(Array.getElem?_eq_some_iff.1 ho).1
     have hlt':i<listed.size:=by omega
     have hpi:listed.getD i false=false:=by
      simp[Array.getD,hlt']at h0 ⊢
      exact h0
     by_cases him':i<m
     case neg=>
      obtain rfl:i=m:=by omega
      have hone:∀ j,j<i→listed.getD j false=true:=by
       intro j hj
       obtain⟨e,he,hb,h⟩:=(hbef i hlt j).1 (by rw[←hm'];exact hbm j (by omega))
       have ho':o'=arr[i]:=by rw[Array.getElem?_eq_getElem hlt]at ho;exact(oi ho).symm
       subst ho'
       have hon:=hall e (by simpa using he) hb
       rcases h with rfl|⟨_,h⟩
       ·exact hon
       ·exact hcl _ hon j h
      have hS':=hD.all (fun j hj=>hone j (by omega)) []
      have h1:=hn N0 W0 fm' ts' a w (.ops arr [i]::ct') Q hS' (.ops (by simp only[List.map_cons,List.map_nil,Array.getD,hlt,dif_pos,List.cons.injEq,and_true];exact hmo) (by simpa using hlt) (by
       intro o1 ho1 d hd
       simp only[List.mem_singleton]at ho1
       subst ho1
       have hmem:Zdi o∈List.map (ZcV n arr) arr.toList:=by rw[←hb1];simp
       have:=hf _ hmem
       simp only[Zdi]at this hd
       rw[hd]at this
       simpa using this) (ht.later hL)) (fun e s x w' f t hp hs hl=>hQ e s x w' f t hp hs (hL.trans hl))
      simp only[K,wpOpsIn,ho]at h1
      unfold wpOpIn
      rw[ho]
      simp only
      have hrd:∀ l:Array Bool,(∀ j,l.getD j true=true)→Region.ready .any arr l=[]:=by
       intro l hl
       cases h:Region.ready .any arr l with
       |nil=>rfl
       |cons j r=>
        have hj:j∈Region.ready .any arr l:=by rw[h];exact List.mem_cons_self
        rw[mem_ready]at hj
        rw[hl j]at hj;cases hj.1
      have hend:∀ a w,K P Q ct' .normal a w→wpAnyIn FW 0 P .any arr (K P Q ct') fuel (listed.setIfInBounds i true) a w:=by
       have hr:=hrd (listed.setIfInBounds i true) (by
        intro j
        by_cases hji:j<arr.size
        ·by_cases he:j=i
         ·subst he;simp[Array.getD,hlt']
         ·rw[getD_set_ne true (Ne.symm he)]
          have hjl:j<listed.size:=by omega
          have:=hone j (by omega)
          simp[Array.getD,hjl]at this ⊢
          exact this
        ·simp[Array.getD,hsz,hji])
       intro a w hk
       cases fuel with
       |zero=>exact⟨hr,hk⟩
       |succ f=>exact⟨fun _=>hk,fun i hi=>by rw[hr]at hi;cases hi⟩
      split
      ·rename_i hw
       rw[if_pos hw]at h1
       exact Oper.wpIn_mono hend h1
      ·rename_i hw
       rw[if_neg hw]at h1
       exact⟨h1.1,hend _ _ h1.2⟩
     obtain⟨s,hs,hsd,hso,hst,hsg⟩:=hat i him' hlt
     have ho':o'=arr[i]:=by rw[Array.getElem?_eq_getElem hlt]at ho;exact(oi ho).symm
     subst ho'
     obtain⟨d,hd⟩:=hds i (by omega)
     have hB:∀ j,(ZaW befs i).contains j=true→listed.getD j false=true:=by
      intro j hj
      have hmm:j∈ZaW befs i:=by simpa using hj
      obtain⟨e,he,hb,h⟩:=(hbef i hlt j).1 hmm
      have hon:=hall e (by simpa using he) hb
      rcases h with rfl|⟨_,h⟩
      ·exact hon
      ·exact hcl _ hon j h
     have hcl':∀ j,listed.getD j false=true→(ZaW befs j).contains i=false:=by
      intro j hj
      cases hc':(ZaW befs j).contains i with
      |false=>rfl
      |true=>
       have:=hcl j hj i (by simpa using hc')
       rw[hpi]at this;cases this
     have hset:∀ j,(listed.setIfInBounds i true).getD j false=(listed.getD j false || j==i):=by
      intro j
      by_cases hji:j=i
      ·subst hji;simp[Array.getD,hlt']
      ·rw[getD_set_ne false (Ne.symm hji)];simp[hji]
     unfold wpOpIn
     rw[ho]
     simp only
     have hTm:Ztv (look (Zh7 ops befs ds st.tm i)) (look (ZeA ops ds (ZeW ops.length fun j=>listed.getD j false) st.tm)):=by
      exact Zj0 h1 hds hB hcl'
     have hyl:∀ g j v,((arr[j]?).bind (·.dst)).getD n=g→a.tmps[g]?=some v→yielded arr a.tmps j=match v with|.bool b=>some b|_=>none:=by
      intro g j v hjg hv
      unfold yielded
      cases hb:(arr[j]?).bind (·.dst) with
      |none=>
       rw[hb]at hjg
       simp only[Option.getD_none]at hjg
       have:=(Array.getElem?_eq_some_iff.1 hv).1
       rw[hD.size]at this
       subst hjg
       exact absurd this (Nat.lt_irrefl _)
      |some dd=>
       rw[hb]at hjg
       simp only[Option.getD_some]at hjg
       subst hjg
       simp only[Option.bind_some,hv]
       cases v<;>rfl
     have hgu:∀ g w,s.guard=some (g,w)→∃ j,(arr[i]).guard=some (j,w)∧((arr[j]?).bind (·.dst)).getD n=g:=by
      intro g w hh
      rw[hh]at hsg
      cases hh2:(arr[i]).guard with
      |none=>rw[hh2]at hsg;cases hsg
      |some p=>
       rw[hh2]at hsg
       simp only[Option.map_some,oE,Prod.mk.injEq]at hsg
       exact⟨p.1,by rw[hsg.2],hsg.1.symm⟩
     have hmore:∀ v w' fm2 ts2,DR N0 W0 n st ops ds (fun j=>listed.getD j false || j==i) (a.put (arr[i]).dst v) w' fm2 ts2→Later N0 fm' ts' fm2 ts2→wpAnyIn FW 0 P .any arr (K P Q ct') fuel (listed.setIfInBounds i true) (a.put (arr[i]).dst v) w':=by
      intro v w' fm2 ts2 hD2 hL2
      refine ih (listed.setIfInBounds i true) _ w' fm2 ts2 (by simpa using hsz) (by rw[hset,hlm];simp;omega) ?_ ?_ ?_ (hL.trans hL2)
      ·have:=Zgb (p:=fun j=>!(listed.setIfInBounds i true).getD j false) (q:=fun j=>!listed.getD j false) (i:=i) (by
        intro j hj
        rw[hset]at hj
        simp only[Bool.not_or,Bool.and_eq_true]at hj
        exact hj.1) (by simp only[hpi,Bool.not_false]) (by simp only[hset,hpi];simp) (List.range arr.size) (List.mem_range.2 hlt)
       omega
      ·intro j hj k hk
       rw[hset]at hj ⊢
       simp only[Bool.or_eq_true,beq_iff_eq]at hj ⊢
       rcases hj with hj|rfl
       ·exact .inl (hcl j hj k hk)
       ·exact .inl (hB k (by simpa using hk))
      ·have e:(fun j=>(listed.setIfInBounds i true).getD j false)=fun j=>listed.getD j false || j==i:=funext hset
       rw[e]
       exact hD2
     have happ:∀ j,listed.getD j false=true→i<j→ZeX (Zbn ds i) (Zbn ds j):=by
      intro j hj hij
      have hjs:j<listed.size:=by
       by_cases hjs:j<listed.size
       ·exact hjs
       ·simp[Array.getD,hjs]at hj
      have hjm:j≠m:=by rintro rfl;rw[hlm]at hj;cases hj
      refine hap i j hij (by omega) ?_
      have:=hcl' j hj
      simpa using this
     have hfits:∀ d,Zb3 ops i=some d→d<n:=by
      intro dd hdd
      have hmem:Zdi s∈List.map (ZcV n arr) arr.toList:=by rw[←hb1];exact List.mem_map_of_mem (List.mem_append_left _ (List.mem_of_getElem? hs))
      have:=hf _ hmem
      simp only[Zb3,hs,Option.bind_some]at hdd
      simp only[Zdi,hdd]at this
      simpa using this
     rcases heff i s d hs hd with ⟨hgo,hE⟩|⟨hsty,rfl⟩
     case inr=>
      obtain⟨g,want,hsgu,hcase⟩:=hsty
      obtain⟨j,hj,hjg⟩:=hgu g want hsgu
      have hnw:Region.wanted arr[i] (yielded arr a.tmps)=false:=by
       rcases hcase with ⟨b,hb,hbw⟩|hb
       ·obtain⟨v,hv,hvr⟩:=hD.tm g _ (hTm g _ hb)
        cases hvr
        simp only[Region.wanted,hj,hyl g j _ hjg hv]
        simpa using hbw
       ·obtain⟨v,hv,hvr⟩:=hD.tm g _ (hTm g _ hb)
        cases hvr
        simp[Region.wanted,hj,hyl g j _ hjg hv]
      rw[if_neg (by rw[hnw];simp)]
      have ho:Out N0 W0 fm' ts' (Zam.puts (st.fr::st.low) (Za2 ds (ZeW ops.length fun j=>listed.getD j false))) w (st.nx+16*i) (.ok .skip w) ⟨.tup [],[]⟩ fm' ts' w undef:=
       ⟨.inr ⟨rfl,rfl⟩,hD.hr,.tup [] #[] rfl (fun i x v h=>by simp at h),FmUp.refl _ _,ZaA.refl _,fun _ _ _ h=>h⟩
      obtain⟨h2,h3⟩:=hD.step (by omega) hpi hd ho h1 hds happ hfits
      have hdo:Zb3 ops i=(arr[i]).dst:=by simp[Zb3,hs,hsd]
      rw[hdo]at h2
      exact⟨fun _ _=>trivial,hmore _ w fm' ts' h2 h3⟩
     have hwant:Region.wanted arr[i] (yielded arr a.tmps)=true:=by
      rcases hgo with hgo|⟨g,want,b,hsgu,hb,hbw⟩
      ·rw[hgo]at hsg
       have:(arr[i]).guard=none:=by
        cases hh:(arr[i]).guard with
        |none=>rfl
        |some g=>rw[hh]at hsg;cases hsg
       simp[Region.wanted,this]
      ·obtain⟨j,hj,hjg⟩:=hgu g want hsgu
       obtain⟨v,hv,hvr⟩:=hD.tm g _ (hTm g _ hb)
       cases hvr
       simp only[Region.wanted,hj,hyl g j _ hjg hv]
       simpa using hbw
     rw[if_pos hwant]
     exact(DR.oper (befs:=befs) hT hD (by omega) hpi hd hs hE h1 hds hB hcl' happ hfits hso hst hsd fun v w' fm2 ts2 hD2 hL2=>hmore v w' fm2 ts2 hD2 hL2)
   refine key arr.size (Array.replicate arr.size false) a _ fm ts (by simp) (hrep m) (Nat.le_trans List.countP_le_length (by simp)) (by intro j hj;rw[hrep]at hj;cases hj) ?_ (Later.refl _ _)
   have e:(fun j=>(Array.replicate arr.size false).getD j false)=fun _=>false:=funext hrep
   rw[e]
   exact DR.none ⟨hS.hr.drew,hS.tm,hS.nx,hS.size,hS.dfr⟩
def Zr3 (n:Nat) (ops:List SOp) (befs:List (List Nat)) (o:SOp):Bool:=
 ((List.range ops.length).all fun j=>(ZaW befs ops.length).contains j)&&ops.all fun s=>match s.guard with
  |some (g,_)=>g != o.dst.getD n
  |none=>true
theorem ZnG (hT:ZaL P T) (hm:P.follows .mixedOrders=true) {ops0 ops:List SOp}{o:SOp}{befs:List (List Nat)}{drop:List Nat}{todo:List It}{st:St} (m:Nat) (e:ops0=ops++[o]) (hl:Zr3 n ops befs o=true)
  (h:DG P T (fun acc st'=>ZnA ops befs acc.reverse=true∧AK P n Φ (.ops [⟨o.dst,o.op,o.type,o.guard,drop⟩]::todo) { st' with tm:=Ze6 st'.tm [] }) (ZlN T m ops [] st)):ZbX P n Φ (.draw ops0 befs drop todo st):=by
 subst e
 obtain⟨ds,h1,h2,h3⟩:=Zex m _ _ _ h
 simp only[List.append_nil,List.reverse_reverse]at h2
 have ZbS:(ds.map (·.1)).length=ops.length:=by simp[h1.length]
 have h2':=h2
 simp only[ZnA,Bool.and_eq_true,decide_eq_true_eq]at h2'
 obtain⟨⟨⟨⟨_,k1⟩,hbl⟩,hap⟩,_⟩:=h2'
 simp only[Zr3,Bool.and_eq_true,List.all_eq_true,List.mem_range]at hl
 refine AK.drawLast hT hm (ds.map (·.1)) (fun j hj=>⟨(ds.map (·.1))[j]'(by omega),gG (by omega)⟩) (ZgE ops k1) (fun i j hj=>by have:=Zf6 befs 0 hbl i j hj;omega) (ZhR hap) (Zmj ds h1 h2) (fun j hj=>by simpa using hl.1 j hj) ?_ (Zmk _ ZbS h3)
 intro s hs g w hg
 have:=hl.2 s hs
 rw[hg]at this
 simpa using this
end
end Go.Abs
namespace Go.Abs
open Go
theorem Za8 {n:Int} (h1:-9223372036854775808≤n) (h2:n≤9223372036854775807):w64 n=n:=by
 simp only[w64,IntKind.wrap,IntKind.bits,IntKind.signed]
 simp
 omega
theorem ZcA {α:Type}{l:List α}{i:Nat}{x:α} (h:l[i]?=some x):at? l (i:Int)=some x:=by
 have:i<l.length:=(gS.1 h).1
 unfold at?
 rw[if_pos ⟨by omega,by omega⟩]
 simpa using h
def Zt0 {R:Type} (g:Nat→Option R):Nat→Nat→Option R
 |_,0=>none
 |i,n+1=>match g i with
  |some r=>some r
  |none=>Zt0 g (i+1) n
theorem Ztt {R:Type}{body:Int→Option (Stp Int Unit R)}{n:Nat}{g:Nat→Option R} (hn:n≤9223372036854775807)
  (h1:∀ i,i<n→body (i:Int)=some (match g i with|some r=>.ret r|none=>.next (w64 ((i:Int)+1)))) (h2:body (n:Int)=some (.brk ())):
  ∀ (k d i:Nat),i+d=n→d<k→whl body k (i:Int)=some (match Zt0 g i d with|some r=>.ret r|none=>.brk ()):=by
 intro k
 induction k with
 |zero=>intro d i _ h;omega
 |succ k ih=>
  intro d i hd hk
  cases d with
  |zero=>
   have:i=n:=by omega
   subst this
   rw[whl,h2];rfl
  |succ d=>
   rw[whl,h1 i (by omega)]
   cases hg:g i with
   |some r=>simp only[Zt0,hg]
   |none=>
    simp only[Zt0,hg]
    have:w64 ((i:Int)+1)=((i+1:Nat):Int):=by rw[Za8 (by omega) (by omega)];omega
    rw[this]
    exact ih d (i+1) (by omega) (by omega)
theorem Zrl {α R:Type}{l:List α}{body:Int→Option (Stp Int Unit R)}{f:α→Option R} (hn:l.length≤9223372036854775807) {k:Nat} (hk:l.length<k)
  (h1:∀ (i:Nat) x,l[i]?=some x→body (i:Int)=some (match f x with|some r=>.ret r|none=>.next (w64 ((i:Int)+1)))) (h2:body (l.length:Int)=some (.brk ())):
  whl body k 0=some (match l.findSome? f with|some r=>.ret r|none=>.brk ()):=by
 have key:∀ (m:List α) (i k:Nat),l.drop i=m→i+m.length=l.length→m.length<k→whl body k (i:Int)=some (match m.findSome? f with|some r=>.ret r|none=>.brk ()):=by
  intro m
  induction m with
  |nil=>
   intro i k _ h3 h4
   cases k with
   |zero=>omega
   |succ k=>
    have:i=l.length:=by simpa using h3
    subst this
    rw[whl,h2];rfl
  |cons x m ih=>
   intro i k h5 h3 h4
   cases k with
   |zero=>omega
   |succ k=>
    simp only[List.length_cons]at h3 h4
    have hx:l[i]?=some x:=by
     have:=congrArg (fun q=>q[0]?) h5
     simpa using this
    rw[whl,h1 i x hx]
    cases hf:f x with
    |some r=>simp only[List.findSome?_cons,hf]
    |none=>
     simp only[List.findSome?_cons,hf]
     have:w64 ((i:Int)+1)=((i+1:Nat):Int):=by rw[Za8 (by omega) (by omega)];omega
     rw[this]
     exact ih (i+1) k (by rw[←List.drop_drop,h5];rfl) (by omega) (by omega)
 exact key l 0 k rfl (by simp) hk
end Go.Abs
namespace Go.Abs
open Go
theorem ZeM {α S R τ:Type}{l:List α}{body:τ→Option (Stp τ S R)} (mk:Int→S→τ) (f:S→α→S) (Inv:Nat→S→Prop) (hn:l.length≤9223372036854775807) {k:Nat} (hk:l.length<k) {s0:S} (h0:Inv 0 s0)
  (h1:∀ (i:Nat) x s,l[i]?=some x→Inv i s→body (mk (i:Int) s)=some (.next (mk (w64 ((i:Int)+1)) (f s x)))∧Inv (i+1) (f s x)) (h2:∀ s,Inv l.length s→body (mk (l.length:Int) s)=some (.brk s)):
  whl body k (mk 0 s0)=some (.brk (l.foldl f s0))∧Inv l.length (l.foldl f s0):=by
 have key:∀ (m:List α) (i k:Nat) (s:S),l.drop i=m→i+m.length=l.length→m.length<k→Inv i s→whl body k (mk (i:Int) s)=some (.brk (m.foldl f s))∧Inv l.length (m.foldl f s):=by
  intro m
  induction m with
  |nil=>
   intro i k s _ h3 h4 hI
   cases k with
   |zero=>omega
   |succ k=>
    have:i=l.length:=by simpa using h3
    subst this
    exact⟨by rw[whl,h2 s hI];rfl,hI⟩
  |cons x m ih=>
   intro i k s h5 h3 h4 hI
   cases k with
   |zero=>omega
   |succ k=>
    simp only[List.length_cons]at h3 h4
    have hx:l[i]?=some x:=by
     have:=congrArg (fun q=>q[0]?) h5
     simpa using this
    obtain⟨h6,h7⟩:=h1 i x s hx hI
    have:w64 ((i:Int)+1)=((i+1:Nat):Int):=by rw[Za8 (by omega) (by omega)];omega
    rw[this]at h6
    rw[whl,h6]
    exact ih (i+1) k (f s x) (by rw[←List.drop_drop,h5];rfl) (by omega) (by omega) h7
 exact key l 0 k s0 rfl (by simp) hk h0
theorem ZeH {α:Type}{b:Nat}{l:List α}{x:α} (h:(l.length+1)*b≤140737488355328) (h2:l.length+1<4611686018427387904):ZdM b l x=some (l++[x]):=by
 unfold ZdM ZmZ
 rw[if_pos ⟨by simpa using h,by simpa using h2⟩]
theorem Zto {n b:Nat} (h:n*b≤140737488355328) (h2:n<4611686018427387904):ZiN n b=some ():=by
 unfold ZiN
 rw[if_pos ⟨h,h2⟩]
end Go.Abs
