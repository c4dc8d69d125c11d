/- (the shelf stands in WShelf) -/
import Derived.Test.YtjlclkenfmbahaaGreatDoorVWShelf
