/- The types' data. No conditions. -/
import Derived.Test.YtnjhekfgmbpmlaaDoorEngF
namespace Go.Proofs.YtnjhekfgmbpmlaaDoor.Ly
open Go Go.Proofs.YtnjhekfgmbpmlaaDoor.Eng Go.Proofs.YtnjhekfgmbpmlaaDoor.Mem
set_option linter.unusedSimpArgs false
set_option linter.unusedVariables false
set_option maxRecDepth 100000
structure TWindow where
  Partition : Int
  Usable : Int
  Slack : Int
  deriving Inhabited, DecidableEq
def TWindow.cells (x : TWindow) : List Value := [.int .i64 x.Partition, .int .i64 x.Usable, .int .i64 x.Slack]
abbrev TWindow.arr (x : TWindow) : Array Value := #[.int .i64 x.Partition, .int .i64 x.Usable, .int .i64 x.Slack]
structure TWindow.ok (F : Nat → Prop) (W : World) (x : TWindow) : Prop where
  Partition : InK .i64 x.Partition
  Usable : InK .i64 x.Usable
  Slack : InK .i64 x.Slack
theorem TWindow.ok.ext {F F' : Nat → Prop} {W W' : World} (he : Ext F W W') (hF : ∀ b, F b → F' b) {x : TWindow} (h : TWindow.ok F W x) : TWindow.ok F' W' x := ⟨h.Partition, h.Usable, h.Slack⟩
structure TRegion where
  Page : Int
  Pages : Int
  Frame : Int
  Rights : Int
  deriving Inhabited, DecidableEq
def TRegion.cells (x : TRegion) : List Value := [.int .i64 x.Page, .int .i64 x.Pages, .int .i64 x.Frame, .int .i64 x.Rights]
abbrev TRegion.arr (x : TRegion) : Array Value := #[.int .i64 x.Page, .int .i64 x.Pages, .int .i64 x.Frame, .int .i64 x.Rights]
structure TRegion.ok (F : Nat → Prop) (W : World) (x : TRegion) : Prop where
  Page : InK .i64 x.Page
  Pages : InK .i64 x.Pages
  Frame : InK .i64 x.Frame
  Rights : InK .i64 x.Rights
theorem TRegion.ok.ext {F F' : Nat → Prop} {W W' : World} (he : Ext F W W') (hF : ∀ b, F b → F' b) {x : TRegion} (h : TRegion.ok F W x) : TRegion.ok F' W' x := ⟨h.Page, h.Pages, h.Frame, h.Rights⟩
structure TPort where
  Channel : Int
  Source : Bool
  deriving Inhabited, DecidableEq
def TPort.cells (x : TPort) : List Value := [.int .i64 x.Channel, .bool x.Source]
abbrev TPort.arr (x : TPort) : Array Value := #[.int .i64 x.Channel, .bool x.Source]
structure TPort.ok (F : Nat → Prop) (W : World) (x : TPort) : Prop where
  Channel : InK .i64 x.Channel
  Source : True
theorem TPort.ok.ext {F F' : Nat → Prop} {W W' : World} (he : Ext F W W') (hF : ∀ b, F b → F' b) {x : TPort} (h : TPort.ok F W x) : TPort.ok F' W' x := ⟨h.Channel, trivial⟩
structure TPartition where
  Name : ByteArray
  Entry : Int
  Action : Int
  Restarts : Int
  Inputs : Int
  Outputs : Int
  Regions : Sl TRegion
  Ports : Sl TPort
  deriving Inhabited
def TPartition.cells (x : TPartition) : List Value := [.string x.Name, .int .i64 x.Entry, .int .i64 x.Action, .int .i64 x.Restarts, .int .i64 x.Inputs, .int .i64 x.Outputs, x.Regions.val, x.Ports.val]
abbrev TPartition.arr (x : TPartition) : Array Value := #[.string x.Name, .int .i64 x.Entry, .int .i64 x.Action, .int .i64 x.Restarts, .int .i64 x.Inputs, .int .i64 x.Outputs, .slice x.Regions.a x.Regions.xs.length x.Regions.cap, .slice x.Ports.a x.Ports.xs.length x.Ports.cap]
structure TPartition.ok (F : Nat → Prop) (W : World) (x : TPartition) : Prop where
  Name : x.Name.size ≤ 140737488351232
  Entry : InK .i64 x.Entry
  Action : InK .i64 x.Action
  Restarts : InK .i64 x.Restarts
  Inputs : InK .i64 x.Inputs
  Outputs : InK .i64 x.Outputs
  Regions : SlOk TRegion.cells 4 TRegion.ok F W x.Regions
  Ports : SlOk TPort.cells 2 TPort.ok F W x.Ports
theorem TPartition.ok.ext {F F' : Nat → Prop} {W W' : World} (he : Ext F W W') (hF : ∀ b, F b → F' b) {x : TPartition} (h : TPartition.ok F W x) : TPartition.ok F' W' x := ⟨h.Name, h.Entry, h.Action, h.Restarts, h.Inputs, h.Outputs, slOk_ext he hF (h.Regions) (fun _ h => TRegion.ok.ext he hF h), slOk_ext he hF (h.Ports) (fun _ h => TPort.ok.ext he hF h)⟩
structure TChannel where
  Kind : Int
  Words : Int
  Depth : Int
  deriving Inhabited, DecidableEq
def TChannel.cells (x : TChannel) : List Value := [.int .i64 x.Kind, .int .i64 x.Words, .int .i64 x.Depth]
abbrev TChannel.arr (x : TChannel) : Array Value := #[.int .i64 x.Kind, .int .i64 x.Words, .int .i64 x.Depth]
structure TChannel.ok (F : Nat → Prop) (W : World) (x : TChannel) : Prop where
  Kind : InK .i64 x.Kind
  Words : InK .i64 x.Words
  Depth : InK .i64 x.Depth
theorem TChannel.ok.ext {F F' : Nat → Prop} {W W' : World} (he : Ext F W W') (hF : ∀ b, F b → F' b) {x : TChannel} (h : TChannel.ok F W x) : TChannel.ok F' W' x := ⟨h.Kind, h.Words, h.Depth⟩
structure TConfig where
  Frames : Int
  Major : Int
  Kernel : Int
  Room : Int
  Cores : Sl (Sl TWindow)
  Partitions : Sl TPartition
  Channels : Sl TChannel
  deriving Inhabited
def TConfig.cells (x : TConfig) : List Value := [.int .i64 x.Frames, .int .i64 x.Major, .int .i64 x.Kernel, .int .i64 x.Room, x.Cores.val, x.Partitions.val, x.Channels.val]
abbrev TConfig.arr (x : TConfig) : Array Value := #[.int .i64 x.Frames, .int .i64 x.Major, .int .i64 x.Kernel, .int .i64 x.Room, .slice x.Cores.a x.Cores.xs.length x.Cores.cap, .slice x.Partitions.a x.Partitions.xs.length x.Partitions.cap, .slice x.Channels.a x.Channels.xs.length x.Channels.cap]
structure TConfig.ok (F : Nat → Prop) (W : World) (x : TConfig) : Prop where
  Frames : InK .i64 x.Frames
  Major : InK .i64 x.Major
  Kernel : InK .i64 x.Kernel
  Room : InK .i64 x.Room
  Cores : SlOk (fun x : Sl TWindow => [Sl.val x]) 1 (fun F W x => SlOk TWindow.cells 3 TWindow.ok F W x) F W x.Cores
  Partitions : SlOk TPartition.cells 8 TPartition.ok F W x.Partitions
  Channels : SlOk TChannel.cells 3 TChannel.ok F W x.Channels
theorem TConfig.ok.ext {F F' : Nat → Prop} {W W' : World} (he : Ext F W W') (hF : ∀ b, F b → F' b) {x : TConfig} (h : TConfig.ok F W x) : TConfig.ok F' W' x := ⟨h.Frames, h.Major, h.Kernel, h.Room, slOk_ext he hF (h.Cores) (fun _ h => slOk_ext he hF h (fun _ h => TWindow.ok.ext he hF h)), slOk_ext he hF (h.Partitions) (fun _ h => TPartition.ok.ext he hF h), slOk_ext he hF (h.Channels) (fun _ h => TChannel.ok.ext he hF h)⟩
structure Tend where
  partition : Int
  port : Int
  deriving Inhabited, DecidableEq
def Tend.cells (x : Tend) : List Value := [.int .i64 x.partition, .int .i64 x.port]
abbrev Tend.arr (x : Tend) : Array Value := #[.int .i64 x.partition, .int .i64 x.port]
structure Tend.ok (F : Nat → Prop) (W : World) (x : Tend) : Prop where
  partition : InK .i64 x.partition
  port : InK .i64 x.port
theorem Tend.ok.ext {F F' : Nat → Prop} {W W' : World} (he : Ext F W W') (hF : ∀ b, F b → F' b) {x : Tend} (h : Tend.ok F W x) : Tend.ok F' W' x := ⟨h.partition, h.port⟩
structure TPartitionPlace where
  Lock : Int
  Save : Int
  State : Int
  Root : Int
  Tables : Sl Int
  deriving Inhabited
def TPartitionPlace.cells (x : TPartitionPlace) : List Value := [.int .i64 x.Lock, .int .i64 x.Save, .int .i64 x.State, .int .i64 x.Root, x.Tables.val]
abbrev TPartitionPlace.arr (x : TPartitionPlace) : Array Value := #[.int .i64 x.Lock, .int .i64 x.Save, .int .i64 x.State, .int .i64 x.Root, .slice x.Tables.a x.Tables.xs.length x.Tables.cap]
structure TPartitionPlace.ok (F : Nat → Prop) (W : World) (x : TPartitionPlace) : Prop where
  Lock : InK .i64 x.Lock
  Save : InK .i64 x.Save
  State : InK .i64 x.State
  Root : InK .i64 x.Root
  Tables : SlOk (fun x : Int => [Value.int .i64 x]) 1 (fun _ _ x => InK .i64 x) F W x.Tables
theorem TPartitionPlace.ok.ext {F F' : Nat → Prop} {W W' : World} (he : Ext F W W') (hF : ∀ b, F b → F' b) {x : TPartitionPlace} (h : TPartitionPlace.ok F W x) : TPartitionPlace.ok F' W' x := ⟨h.Lock, h.Save, h.State, h.Root, slOk_ext he hF (h.Tables) (fun _ h => h)⟩
structure TDestPlace where
  Partition : Int
  Port : Int
  At : Int
  deriving Inhabited, DecidableEq
def TDestPlace.cells (x : TDestPlace) : List Value := [.int .i64 x.Partition, .int .i64 x.Port, .int .i64 x.At]
abbrev TDestPlace.arr (x : TDestPlace) : Array Value := #[.int .i64 x.Partition, .int .i64 x.Port, .int .i64 x.At]
structure TDestPlace.ok (F : Nat → Prop) (W : World) (x : TDestPlace) : Prop where
  Partition : InK .i64 x.Partition
  Port : InK .i64 x.Port
  At : InK .i64 x.At
theorem TDestPlace.ok.ext {F F' : Nat → Prop} {W W' : World} (he : Ext F W W') (hF : ∀ b, F b → F' b) {x : TDestPlace} (h : TDestPlace.ok F W x) : TDestPlace.ok F' W' x := ⟨h.Partition, h.Port, h.At⟩
structure TChannelPlace where
  Lock : Int
  Stage : Int
  Partition : Int
  Port : Int
  Dests : Sl TDestPlace
  deriving Inhabited
def TChannelPlace.cells (x : TChannelPlace) : List Value := [.int .i64 x.Lock, .int .i64 x.Stage, .int .i64 x.Partition, .int .i64 x.Port, x.Dests.val]
abbrev TChannelPlace.arr (x : TChannelPlace) : Array Value := #[.int .i64 x.Lock, .int .i64 x.Stage, .int .i64 x.Partition, .int .i64 x.Port, .slice x.Dests.a x.Dests.xs.length x.Dests.cap]
structure TChannelPlace.ok (F : Nat → Prop) (W : World) (x : TChannelPlace) : Prop where
  Lock : InK .i64 x.Lock
  Stage : InK .i64 x.Stage
  Partition : InK .i64 x.Partition
  Port : InK .i64 x.Port
  Dests : SlOk TDestPlace.cells 3 TDestPlace.ok F W x.Dests
theorem TChannelPlace.ok.ext {F F' : Nat → Prop} {W W' : World} (he : Ext F W W') (hF : ∀ b, F b → F' b) {x : TChannelPlace} (h : TChannelPlace.ok F W x) : TChannelPlace.ok F' W' x := ⟨h.Lock, h.Stage, h.Partition, h.Port, slOk_ext he hF (h.Dests) (fun _ h => TDestPlace.ok.ext he hF h)⟩
structure TLayout where
  Barrier : Int
  Partitions : Sl TPartitionPlace
  Channels : Sl TChannelPlace
  End : Int
  deriving Inhabited
def TLayout.cells (x : TLayout) : List Value := [.int .i64 x.Barrier, x.Partitions.val, x.Channels.val, .int .i64 x.End]
abbrev TLayout.arr (x : TLayout) : Array Value := #[.int .i64 x.Barrier, .slice x.Partitions.a x.Partitions.xs.length x.Partitions.cap, .slice x.Channels.a x.Channels.xs.length x.Channels.cap, .int .i64 x.End]
structure TLayout.ok (F : Nat → Prop) (W : World) (x : TLayout) : Prop where
  Barrier : InK .i64 x.Barrier
  Partitions : SlOk TPartitionPlace.cells 5 TPartitionPlace.ok F W x.Partitions
  Channels : SlOk TChannelPlace.cells 5 TChannelPlace.ok F W x.Channels
  End : InK .i64 x.End
theorem TLayout.ok.ext {F F' : Nat → Prop} {W W' : World} (he : Ext F W W') (hF : ∀ b, F b → F' b) {x : TLayout} (h : TLayout.ok F W x) : TLayout.ok F' W' x := ⟨h.Barrier, slOk_ext he hF (h.Partitions) (fun _ h => TPartitionPlace.ok.ext he hF h), slOk_ext he hF (h.Channels) (fun _ h => TChannelPlace.ok.ext he hF h), h.End⟩
structure TOwner where
  Kind : Int
  Index : Int
  Port : Int
  deriving Inhabited, DecidableEq
def TOwner.cells (x : TOwner) : List Value := [.int .i64 x.Kind, .int .i64 x.Index, .int .i64 x.Port]
abbrev TOwner.arr (x : TOwner) : Array Value := #[.int .i64 x.Kind, .int .i64 x.Index, .int .i64 x.Port]
structure TOwner.ok (F : Nat → Prop) (W : World) (x : TOwner) : Prop where
  Kind : InK .i64 x.Kind
  Index : InK .i64 x.Index
  Port : InK .i64 x.Port
theorem TOwner.ok.ext {F F' : Nat → Prop} {W W' : World} (he : Ext F W W') (hF : ∀ b, F b → F' b) {x : TOwner} (h : TOwner.ok F W x) : TOwner.ok F' W' x := ⟨h.Kind, h.Index, h.Port⟩
end Go.Proofs.YtnjhekfgmbpmlaaDoor.Ly
